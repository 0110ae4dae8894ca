/-
  Texts of this claim, one behind the other.
-/
import Derived.Test.YtamdifhibogdiaaGreatDoorX1
import Derived.Test.YtamdifhibogdiaaGreatDoorX14
import Derived.Lib.Hide
set_option linter.unusedVariables false
set_option linter.unusedSimpArgs false
set_option maxHeartbeats 16000000
set_option maxRecDepth 100000
open List renaming length_map→yf,mem_cons→uB,mem_singleton→df,not_mem_nil→gB
open Nat renaming le_refl→xc,le_trans→uj
namespace Go.Proofs.YtamdifhibogdiaaGreatDoor
open RowKit Mem Ops Cells Oct Gf Trn Aes Ring Ezk Ezh Ezt Ezc ru Fl
attribute [local irreducible] zE zN zO zM yu qM
theorem zx (back:Bool) (kp q p:Nat) (k:zv) (ao:Option Addr) (N cap:Nat) (ss:List Str) (bo:Option Addr) (n cb:Nat) (m:List UInt8) (w:World) (hk:xH w kp q p k) (hN:ss.length=N) (hN1:N≤500) (hs:xY w ao ss) (hlen:∀ s∈ss,s.bs.length≤10000)
  (hn:m.length=n) (h32:32≤n) (hnb:n≤20000) (hc:n≤cb) (hl:zr w bo (m.map B)) :
  Calls Tryz.prog 208 #[.pointer (some ⟨kp,0,none⟩),.slice ao N cap,.slice bo n cb,.bool back] w fun e w'=>∃ v,e=.returned (.tuple #[v,.int .i64 0])∧w'.ownsRow w.heap.size 5 1 v n ((Zn k (rowOf ss) m back).map B)∧Below w.heap.size w w':=by
 have hfit:=YQ (m:=m) (by omega)
 have hpl:(z5 m).pairs.length≤900:=by
  have:=qZ hfit
  rw [wA (by omega),hn] at this
  omega
 have HK:=znq hk
 have HNN:=znq hN
 have HSS:=znq hs
 have HLEN:=znq hlen
 have HN:=znq hn
 have HL:=znq hl
 have HS:=znq (St.start w)
 have HRL:=znq (show (Zn k (rowOf ss) m back).length=n by rw [ZH _ _ _ _ (by omega)];exact hn)
 have d1:decide ((n:Int) < 32)=false:=by simp;omega
 obtain ⟨n1,hn1⟩:∃ x,x=(if back=true then 2 else 1):=⟨_,rfl⟩
 obtain ⟨n2,hn2⟩:∃ x,x=(if back=true then 1 else 2):=⟨_,rfl⟩
 obtain ⟨nu,hnu⟩:∃ x,x=(z5 m).u.length:=⟨_,rfl⟩
 obtain ⟨nv,hnv⟩:∃ x,x=(z5 m).v.length:=⟨_,rfl⟩
 obtain ⟨H,hH⟩:∃ x,x=qB k (rowOf ss):=⟨_,rfl⟩
 obtain ⟨ps,hps⟩:∃ x,x=(z5 m).pairs:=⟨_,rfl⟩
 obtain ⟨u,hu⟩:∃ x,x=(z5 m).u:=⟨_,rfl⟩
 obtain ⟨v,hv⟩:∃ x,x=(z5 m).v:=⟨_,rfl⟩
 obtain ⟨X,hX⟩:∃ x,x=(z5 m).x:=⟨_,rfl⟩
 obtain ⟨Y,hY⟩:∃ x,x=(z5 m).y:=⟨_,rfl⟩
 obtain ⟨AH,hAH⟩:∃ x,x=qK k 0 (zf 16) ps:=⟨_,rfl⟩
 obtain ⟨p1,hp1⟩:∃ x,x=yh k 0 ps:=⟨_,rfl⟩
 obtain ⟨TL,hTL⟩:∃ x,x=kh k u v:=⟨_,rfl⟩
 obtain ⟨Pm,hPm⟩:∃ x,x=plusB [AH,TL]:=⟨_,rfl⟩
 obtain ⟨EA,hEA⟩:∃ x,x=pM k 0 n1 Y:=⟨_,rfl⟩
 obtain ⟨Sm,hSm⟩:∃ x,x=plusB [X,H,Pm,EA]:=⟨_,rfl⟩
 obtain ⟨ES,hES⟩:∃ x,x=zrg k n1 Sm:=⟨_,rfl⟩
 obtain ⟨Tm,hTm⟩:∃ x,x=plusB [Y,ES]:=⟨_,rfl⟩
 obtain ⟨Z,hZ⟩:∃ x,x=plusB [Sm,Tm]:=⟨_,rfl⟩
 obtain ⟨EU,hEU⟩:∃ x,x=zrg k 4 Z:=⟨_,rfl⟩
 obtain ⟨EV,hEV⟩:∃ x,x=zrg k 5 Z:=⟨_,rfl⟩
 obtain ⟨u',hu'⟩:∃ x,x=nX u EU:=⟨_,rfl⟩
 obtain ⟨v',hv'⟩:∃ x,x=nX v EV:=⟨_,rfl⟩
 obtain ⟨BS,hBS⟩:∃ x,x=xN k Z 0 (zf 16) p1:=⟨_,rfl⟩
 obtain ⟨p2,hp2⟩:∃ x,x=z6 k Z 0 p1:=⟨_,rfl⟩
 obtain ⟨TL2,ziL⟩:∃ x,x=kh k u' v':=⟨_,rfl⟩
 obtain ⟨Qm,hQm⟩:∃ x,x=plusB [BS,TL2]:=⟨_,rfl⟩
 obtain ⟨ET,hET⟩:∃ x,x=zrg k n2 Tm:=⟨_,rfl⟩
 obtain ⟨Y',hY'⟩:∃ x,x=plusB [Sm,ET]:=⟨_,rfl⟩
 obtain ⟨EY,hEY⟩:∃ x,x=pM k 0 n2 Y':=⟨_,rfl⟩
 obtain ⟨X',hX'⟩:∃ x,x=plusB [Tm,H,Qm,EY]:=⟨_,rfl⟩
 obtain ⟨Rr,hRr⟩:∃ x,x=Zn k (rowOf ss) m back:=⟨_,rfl⟩
 have E_H:=znq (show qB k (rowOf ss)=H∧True from ⟨hH.symm,trivial⟩)
 have E_AH:=znq (show qK k 0 (zf 16) ps=AH∧True from ⟨hAH.symm,trivial⟩)
 have E_TL:=znq (show kh k u v=TL∧True from ⟨hTL.symm,trivial⟩)
 have E_Pm:=znq (show plusB [AH,TL]=Pm∧True from ⟨hPm.symm,trivial⟩)
 have E_EA:=znq (show pM k 0 n1 Y=EA∧True from ⟨hEA.symm,trivial⟩)
 have E_Sm:=znq (show plusB [X,H,Pm,EA]=Sm∧True from ⟨hSm.symm,trivial⟩)
 have E_ES:=znq (show zrg k n1 Sm=ES∧True from ⟨hES.symm,trivial⟩)
 have E_Tm:=znq (show plusB [Y,ES]=Tm∧True from ⟨hTm.symm,trivial⟩)
 have E_Z:=znq (show plusB [Sm,Tm]=Z∧True from ⟨hZ.symm,trivial⟩)
 have E_EU:=znq (show zrg k 4 Z=EU∧True from ⟨hEU.symm,trivial⟩)
 have E_EV:=znq (show zrg k 5 Z=EV∧True from ⟨hEV.symm,trivial⟩)
 have E_u':=znq (show nX u EU=u'∧True from ⟨hu'.symm,trivial⟩)
 have E_v':=znq (show nX v EV=v'∧True from ⟨hv'.symm,trivial⟩)
 have E_BS:=znq (show xN k Z 0 (zf 16) p1=BS∧True from ⟨hBS.symm,trivial⟩)
 have zkE:=znq (show kh k u' v'=TL2∧True from ⟨ziL.symm,trivial⟩)
 have E_Qm:=znq (show plusB [BS,TL2]=Qm∧True from ⟨hQm.symm,trivial⟩)
 have E_ET:=znq (show zrg k n2 Tm=ET∧True from ⟨hET.symm,trivial⟩)
 have E_Y':=znq (show plusB [Sm,ET]=Y'∧True from ⟨hY'.symm,trivial⟩)
 have E_EY:=znq (show pM k 0 n2 Y'=EY∧True from ⟨hEY.symm,trivial⟩)
 have E_X':=znq (show plusB [Tm,H,Qm,EY]=X'∧True from ⟨hX'.symm,trivial⟩)
 have E_p1:=znq (show yh k 0 ps=p1∧True from ⟨hp1.symm,trivial⟩)
 have E_p2:=znq (show z6 k Z 0 p1=p2∧True from ⟨hp2.symm,trivial⟩)
 have HM:=znq (show (z5 m).pairs=ps∧(z5 m).u=u∧(z5 m).v=v∧(z5 m).x=X∧(z5 m).y=Y from ⟨hps.symm,hu.symm,hv.symm,hX.symm,hY.symm⟩)
 have HRE:=znq (show xB ⟨p2,u',v',X',Y'⟩=Rr∧True from ⟨by
  rw [hRr,hX',hEY,hY',hET,hQm,ziL,hp2,hBS,hv',hu',hEV,hEU,hZ,hTm,hES,hSm,hEA,hPm,hTL,hp1,hAH,hY,hX,hv,hu,hps,hH,hn1,hn2];rfl,trivial⟩)
 have L_H:=znq (show H.length=16 by rw [hH];exact vk _ _)
 have zkF:=znq (show AH.length=16 by rw [hAH];exact wU _ _ _ _ (zd 16))
 have zkG:=znq (show TL.length=16 by rw [hTL];exact vw _ _ _)
 have zkH:=znq (show Pm.length=16 by rw [hPm];exact mO _)
 have zkI:=znq (show EA.length=16 by rw [hEA];exact yo _ _ _ _)
 have zdX:=znq (show Sm.length=16 by rw [hSm];exact mO _)
 have zkJ:=znq (show ES.length=16 by rw [hES];exact yM _ _ _)
 have zdY:=znq (show Tm.length=16 by rw [hTm];exact mO _)
 have L_Z:=znq (show Z.length=16 by rw [hZ];exact mO _)
 have zkK:=znq (show EU.length=16 by rw [hEU];exact yM _ _ _)
 have zkL:=znq (show EV.length=16 by rw [hEV];exact yM _ _ _)
 have zdZ:=znq (show TL2.length=16 by rw [ziL];exact vw _ _ _)
 have zkM:=znq (show Qm.length=16 by rw [hQm];exact mO _)
 have zkN:=znq (show ET.length=16 by rw [hET];exact yM _ _ _)
 have zd0:=znq (show Y'.length=16 by rw [hY'];exact mO _)
 have zkO:=znq (show EY.length=16 by rw [hEY];exact yo _ _ _ _)
 have ziM:=znq (show X'.length=16 by rw [hX'];exact mO _)
 have zkP:=znq (show BS.length=16 by rw [hBS];exact vS _ _ _ _ _ (zd 16))
 have L_X:=znq (show X.length=16 by rw [hX];exact hfit.x)
 have L_Y:=znq (show Y.length=16 by rw [hY];exact hfit.y)
 have L_u:=znq (show u.length=nu by rw [hu,hnu])
 have L_v:=znq (show v.length=nv by rw [hv,hnv])
 have zdR:nu≤16:=by rw [hnu];exact hfit.u
 have zfZ:nv < 16:=by rw [hnv];exact hfit.v
 have ziN:=znq (show u'.length=nu by rw [hu',mW,L_u.out,zkK.out];omega)
 have ziO:=znq (show v'.length=nv by rw [hv',mW,L_v.out,zkL.out];omega)
 have HUV:=znq (show nu < 16→nv=0 from fun h=>by
  have:=hfit.uv (by rw [← hnu];exact h)
  rw [hnv,this];rfl)
 have HPF:=znq (show ∀ r∈ps,xO r by rw [hps];exact hfit.pairs)
 have HPL:=znq (show ps.length≤900 by rw [hps];exact hpl)
 have HPL1:=znq (show p1.length=ps.length by rw [hp1,xF])
 have HPL2:=znq (show p2.length=ps.length by rw [hp2,qm,hp1,xF])
 rw [← hRr] at HRL ⊢
 have HNU:=znq (show (z5 m).u.length=nu∧(z5 m).v.length=nv from ⟨hnu.symm,hnv.symm⟩)
 have hn1b:n1≤2:=by rw [hn1];split <;> omega
 have hn2b:n2≤2:=by rw [hn2];split <;> omega
 have zgA:(back=false∧Value.int .i64 1=.int .i64 (n1:Nat)∧Value.int .i64 2=.int .i64 (n2:Nat))∨(back=true∧Value.int .i64 2=.int .i64 (n1:Nat)∧Value.int .i64 1=.int .i64 (n2:Nat)):=by
  rw [hn1,hn2];cases back
  ·exact .inl ⟨rfl,rfl,rfl⟩
  ·exact .inr ⟨rfl,rfl,rfl⟩
 clear hk hN hs hlen hn hl hfit hpl hnu hnv hH hps hu hv hX hY hAH hp1 hTL hPm hEA hSm hES hTm hZ hEU hEV hu' hv' hBS hp2 ziL hQm hET hY' hEY hX' hRr hn1 hn2
 have M_H:=znq (show (H.map B).length=16 by rw [yf];exact L_H.out)
 have M_AH:=znq (show (AH.map B).length=16 by rw [yf];exact zkF.out)
 have M_TL:=znq (show (TL.map B).length=16 by rw [yf];exact zkG.out)
 have M_Pm:=znq (show (Pm.map B).length=16 by rw [yf];exact zkH.out)
 have M_EA:=znq (show (EA.map B).length=16 by rw [yf];exact zkI.out)
 have zkQ:=znq (show (Sm.map B).length=16 by rw [yf];exact zdX.out)
 have M_ES:=znq (show (ES.map B).length=16 by rw [yf];exact zkJ.out)
 have zkR:=znq (show (Tm.map B).length=16 by rw [yf];exact zdY.out)
 have M_Z:=znq (show (Z.map B).length=16 by rw [yf];exact L_Z.out)
 have M_EU:=znq (show (EU.map B).length=16 by rw [yf];exact zkK.out)
 have M_EV:=znq (show (EV.map B).length=16 by rw [yf];exact zkL.out)
 have M_X:=znq (show (X.map B).length=16 by rw [yf];exact L_X.out)
 have M_Y:=znq (show (Y.map B).length=16 by rw [yf];exact L_Y.out)
 have M_TL2:=znq (show (TL2.map B).length=16 by rw [yf];exact zdZ.out)
 have M_Qm:=znq (show (Qm.map B).length=16 by rw [yf];exact zkM.out)
 have M_ET:=znq (show (ET.map B).length=16 by rw [yf];exact zkN.out)
 have M_Y':=znq (show (Y'.map B).length=16 by rw [yf];exact zd0.out)
 have M_EY:=znq (show (EY.map B).length=16 by rw [yf];exact zkO.out)
 have M_X':=znq (show (X'.map B).length=16 by rw [yf];exact ziM.out)
 have M_BS:=znq (show (BS.map B).length=16 by rw [yf];exact zkP.out)
 rcases zgA with ⟨rfl,zgA⟩ | ⟨rfl,zgA⟩
 all_goals
  have HV:=znq zgA
  clear zgA
  go_enter Tryz.func208,Tryz.ntmps208
  generalize hbb:w.heap.size=bb at *
  have HBB:=znq hbb
  clear hbb
  go_wp2_with fail
  rw [HV.znr.1,HV.znr.2]
  refine (KM kp q p k ao N cap ss _ HK.znr HNN.znr hN1 HSS.znr HLEN.znr).mono ?_
  rintro e w1 ⟨rfl,hbel⟩
  rw [E_H.out.1]
  have HS:=znq (HS.znr.later hbel)
  have hz1:=HS.znr.size
  clear hbel
  go_wp2_with (refine ze 59 ((zf 16).map B) _ rfl rfl zj rfl ?_)
  intro w2 hb hbel;have HS:=znq (HS.znr.push hb hbel);have hlt2:=hb.lt;clear hb hbel
  go_wp2_with (refine (HS.znr.get 0 rfl).mM rfl rfl rfl rfl zc (by rw [yf];exact zd 16) M_H.out (zg _) ?_)
  intro w3 hb3 ho3
  have ziP:=znq (zk HS.znr.bel ho3 (by omega))
  have hbb3:bb≤w3.heap.size:=by have:=ziP.znr.size;rw [HBB.znr] at this;exact this
  have HS:=znq (show St w3 w3.heap.size w3 [(w1.heap.size,H.map B,59)] from (St.start w3).add hb3)
  have hbh:=hb3.lt
  clear hb3 ho3
  generalize w1.heap.size=bh at *
  have HK:=znq (HK.znr.later (by rw [HBB.znr];exact ziP.znr))
  go_wp2_with fail
  refine (zcd bo n cb m _ HN.znr h32 (by omega) hc (HL.znr.below (by rw [HBB.znr];exact ziP.znr))).mono ?_
  rintro e w4 ⟨pv,ua,uc,va,vc,rfl,hown,hlu,hlv,hbel⟩
  have HOW:=znq hown
  have HLU:=znq hlu
  have HLV:=znq hlv
  have HS:=znq (HS.znr.later hbel)
  rw [HM.znr.1] at HOW
  rw [HM.znr.2.1] at HLU
  rw [HM.znr.2.2.1] at HLV
  rw [HM.znr.2.2.2.1,HM.znr.2.2.2.2,HNU.znr.1,HNU.znr.2]
  obtain ⟨og,hpm,hog⟩:=Wm HPF.znr HOW.znr
  have HPM:=znq hpm
  have HOG:=znq hog
  have hz4:=hbel.size
  have hp1c:=hpm.one
  clear hown hlu hlv hbel hpm hog HOW
  go_wp2_with (refine ze 343 (z4 (.slice none 0 0) (.slice none 0 0) (.slice none 0 0) (zf 16) (zf 16)) _ rfl rfl vq rfl ?_)
  intro w5 hb hbel;have HPM:=znq (HPM.znr.later hbel);have HS:=znq (HS.znr.push hb hbel);have zcO:=hb.lt;clear hb hbel
  generalize w4.heap.size=bm at *
  go_wp2_with (refine (HS.znr.get 0 rfl).mM rfl rfl rfl (cs:=z4 pv (.slice ua nu uc) (.slice va nv vc) X Y) rfl yG (zY (zd 16) (zd 16)) (zY L_X.out L_Y.out) (Qe hp1c rfl rfl) ?_)
  intro w6 hb6 ho6
  have HPM:=znq (HPM.znr.only (HS.znr.get 0 rfl) (by decide) ho6)
  have HOG:=znq (show ∀ g,og=some g→bh < g∧w3.heap.size≤g∧g < bm from fun g e=>⟨by have:=(HOG.znr g e).1;omega,HOG.znr g e⟩)
  have HS:=znq (show St w3 w3.heap.size w6 [(bm,z4 pv (.slice ua nu uc) (.slice va nv vc) X Y,343),(bh,H.map B,59)] from by
   have:=HS.znr.change 0 hb6 ho6 (by omega) (by simp;omega)
   exact this)
  clear hb6 ho6
  have hlm:=(HS.znr.get 0 rfl).lt
  -- the sum of the first turn
  go_wp2_with fail
  refine jS (fun u v=>u.grownBy v og) [9] [0,1,3,4] [2,5,6,7,8] [(9,false)] [(5,[2]),(6,[2,5]),(7,[5,6])]
   (fun D x wx=>∃ x3 x28 x29 x30 v14 v38 v41 v42 v43,x={ tmps:=#[.pointer (some ⟨kp,0,none⟩),.slice ao N cap,.slice bo n cb,x3,undef,undef,undef,undef,.slice none 0 0,.int .i64 0,.int .i64 n1,.int .i64 n2,.pointer (some ⟨bh,0,none⟩),.pointer (some ⟨bm,0,none⟩),v14,undef,undef,undef,undef,undef,undef,.bool false,.pointer (some ⟨kp,0,none⟩),.bool false,.bool false,.slice bo n cb,.int .i64 n,.bool false,x28,x29,x30,.pointer (some ⟨kp,0,none⟩),.slice ao N cap,.agg (H.map B).toArray,.slice bo n cb,.agg (z4 pv (.slice ua nu uc) (.slice va nv vc) X Y).toArray,.agg (z4 pv (.slice ua nu uc) (.slice va nv vc) X Y).toArray,.pointer (some ⟨kp,0,none⟩),v38,.agg (z4 pv (.slice ua nu uc) (.slice va nv vc) X Y).toArray,.pointer (some ⟨kp,0,none⟩),v41,v42,v43,undef,undef,undef,undef,undef,undef,undef,undef,undef,undef,undef,undef,undef,undef,undef,undef,undef,undef,undef,undef,undef,undef,undef,undef,undef,undef,undef,undef,undef,undef,undef,undef,undef,undef,undef,undef,undef,undef,undef,undef,undef,undef,undef,undef,undef,undef,undef,undef,undef,undef,undef,undef,undef,undef,undef,undef,undef,undef,undef,undef,undef,undef,undef,undef,undef,undef,undef,undef,undef],defers:=[] }∧Hid (St w3 w3.heap.size wx [(bm,z4 pv (.slice ua nu uc) (.slice va nv vc) X Y,343),(bh,H.map B,59)])∧w6.heap.size≤wx.heap.size∧Hid (TI (D 2) (D 5) (D 6) (D 7) (D 8) w6.heap.size wx v38 v41 v42 v43 v14 AH TL Pm)∧Hid ((D 2=true→PM wx pv p1 og)∧(D 2=false→PM wx pv ps og)))
   (fun a=>World.grownBy.refl a og) (fun _ _ _ h1 h2=>h1.trans h2) (by kernel_rfl) (by kernel_rfl) ?_ ?_ ?_
  ·rintro w7 rfl
   have HS:=znq HS.znr.drew
   refine qa (vs:=z4 pv (.slice ua nu uc) (.slice va nv vc) X Y) (fun w' hw'=>((HS.znr.get 0 rfl).grown hw' (by intro e;have:=(HOG.znr _ e.symm).2.2;omega)).range) yG (zY L_X.out L_Y.out) rfl rfl rfl rfl (fun K hK=>?_)
   go_simp;refine hK _ ?_;clear hK K
   refine qH rfl rfl (fun K hK=>?_);go_big_quiet_step (fail);refine wpQuiet_nil (hK _ ?_);clear hK K
   refine qa (vs:=z4 pv (.slice ua nu uc) (.slice va nv vc) X Y) (fun w' hw'=>((HS.znr.get 0 rfl).grown hw' (by intro e;have:=(HOG.znr _ e.symm).2.2;omega)).range) yG (zY L_X.out L_Y.out) rfl rfl rfl rfl (fun K hK=>?_)
   go_simp;refine hK _ ?_;clear hK K
   refine qH rfl rfl (fun K hK=>?_);go_big_quiet_step (fail);refine wpQuiet_nil (hK _ ?_);clear hK K
   exact vG ⟨_,_,_,_,_,_,_,_,_,rfl,HS,xc _,TI.nought,fun h=>(by cases h),fun _=>HPM.znr.later (Below.refl _ _).drew⟩
  ·rintro D x wx kk hkM hDk rf ⟨x3,x28,x29,x30,v14,v38,v41,v42,v43,rfl,HS,hsz,HTI,HP2⟩
   simp only [uB,gB,or_false] at hkM
   rcases hkM with rfl | rfl | rfl | rfl | rfl
   ·rw [hDk] at HTI
    refine yc rfl rfl (fun K hK=>?_)
    go_simp
    refine (Wp kp q p k pv ps og _ _ X Y _ (HK.znr.later HS.znr.bel) (HP2.znr.2 hDk) HPL.znr).mono ?_
    rintro e w' ⟨rfl,hpm,hg⟩
    rw [E_AH.out.1]
    rw [E_p1.out.1] at hpm
    go_simp
    refine hK _ _ ⟨fun _=>hg,_,_,_,_,v14,.agg (AH.map B).toArray,v41,v42,v43,rfl,HS.znr.grown hg (fun g e=>(HOG.znr g e).2.1) (by intro e he e2;simp at he;have:=HOG.znr _ e2.symm;rcases he with rfl | rfl <;> simp at this <;> omega),uj hsz hg.size,?_,?_⟩
    ·exact znq (by simpa using HTI.znr.s2 hg (fun g e=>by have:=(HOG.znr g e).2.2;omega))
    ·exact ⟨fun _=>hpm,fun h=>by simp at h⟩
   ·have h2:=rf 2 (by simp [yE])
    refine yc rfl rfl (fun K hK=>?_)
    go_simp
    refine (Qg kp q p k pv ua va nu nv uc vc u v X Y _ (HK.znr.later HS.znr.bel) L_u.out L_v.out zdR zfZ (HLU.znr.below HS.znr.bel) (HLV.znr.below HS.znr.bel)).mono ?_
    rintro e w' ⟨rfl,hbel⟩
    rw [E_TL.out.1]
    go_simp
    refine hK _ _ ⟨fun _=>yw hbel,_,_,_,_,v14,v38,.agg (TL.map B).toArray,v42,v43,rfl,HS.znr.later hbel,uj hsz hbel.size,?_,?_⟩
    ·exact znq (by simpa using (HTI.znr.later hbel).s5)
    ·exact ⟨fun _=>(HP2.znr.1 h2).later hbel,fun h=>by simp [h2] at h⟩
   ·have h2:=rf 2 (by simp [yE])
    have h5:=rf 5 (by simp [yE])
    obtain rfl:=HTI.znr.r2 h2
    obtain rfl:=HTI.znr.r5 h5
    refine yc rfl rfl (fun K hK=>?_)
    refine y8 299 59 16 2 _ [AH.map B,TL.map B] rfl rfl Tryz.underlying299 zF rfl (by omega) rfl (by omega) (by omega) (by simp [zkF.out,zkG.out]) (fun w' hb hbel=>hK _ _ ?_)
    refine ⟨fun _=>yw hbel,_,_,_,_,v14,.agg (AH.map B).toArray,.agg (TL.map B).toArray,.slice (some ⟨wx.heap.size,0,none⟩) 2 2,v43,rfl,HS.znr.later hbel,uj hsz hbel.size,?_,?_⟩
    ·exact znq (by simpa using (HTI.znr.later hbel).s6 ⟨by simp [zkF.out,zkG.out],by have:=hb.lies;simpa using this⟩ h2)
    ·exact ⟨fun _=>(HP2.znr.1 h2).later hbel,fun h=>by simp [h2] at h⟩
   ·have h5:=rf 5 (by simp [yE])
    obtain ⟨nr,rfl,hr,h2⟩:=HTI.znr.r6 (rf 6 (by simp [yE]))
    refine yc rfl rfl (fun K hK=>?_)
    go_simp
    refine (yN (some ⟨nr,0,none⟩) 2 2 [AH,TL] _ rfl (by omega) hr).mono ?_
    rintro e w' ⟨rfl,hbel⟩
    rw [E_Pm.out.1]
    go_simp
    refine hK _ _ ⟨fun _=>yw hbel,_,_,_,_,v14,v38,v41,.slice (some ⟨nr,0,none⟩) 2 2,.agg (Pm.map B).toArray,rfl,HS.znr.later hbel,uj hsz hbel.size,?_,?_⟩
    ·exact znq (by simpa using (HTI.znr.later hbel).s7)
    ·exact ⟨fun _=>(HP2.znr.1 h2).later hbel,fun h=>by simp [h2] at h⟩
   ·refine yc rfl rfl (fun K hK=>?_)
    refine Yv 59 ((zf 16).map B) _ rfl zj rfl (fun w' hb hbel=>hK _ _ ?_)
    refine ⟨fun _=>yw hbel,_,_,_,_,.pointer (some ⟨wx.heap.size,0,none⟩),v38,v41,v42,v43,rfl,HS.znr.later hbel,uj hsz hbel.size,?_,?_⟩
    ·exact znq (by simpa using HTI.znr.s8 hsz hb hbel)
    ·exact ⟨fun h=>(HP2.znr.1 (by simpa using h)).later hbel,fun h=>(HP2.znr.2 (by simpa using h)).later hbel⟩
  rintro x wx ⟨x3,x28,x29,x30,v14,v38,v41,v42,v43,rfl,HS1,hsz,HTI,HP2⟩
  have HPM:=znq (HP2.znr.1 rfl)
  obtain ⟨bp,rfl,hbp,hbpb⟩:=HTI.znr.r8 rfl
  obtain rfl:=HTI.znr.r7 rfl
  have HS:=znq (HS1.znr.add hbpb)
  clear HTI HP2 HS1 hbpb
  refine xL rfl (by rfl) (fun K hK=>?_)
  refine (HS.znr.get 0 rfl).mZ rfl rfl rfl zc (by simp [zd]) M_Pm.out (zg _) (fun w8 hb ho=>hK _ _ (fun h=>by cases h) ?_)
  clear hK K
  have HPM:=znq (HPM.znr.only (HS.znr.get 0 rfl) (by decide) ho)
  have HS:=znq (show St w3 w3.heap.size w8 ((bp,Pm.map B,59)::[(bm,z4 pv (.slice ua nu uc) (.slice va nv vc) X Y,343),(bh,H.map B,59)]) from HS.znr.change 0 hb ho (by omega) (by simp;omega))
  clear hb ho
  go_simp
  refine kN ?_
  have HW:=znq HS.znr.bel
  have hbp2:=(HS.znr.get 0 rfl).lt
  have HS:=znq HS.znr.rR
  have HWL:=znq (show w3.heap.size≤w8.heap.size from HW.znr.size)
  have HNE:=znq HS.znr.ne
  have hps:=HS.znr.size
  go_wp2_with fail
  refine yn [0,1,2,3,4,5,6,7] [8,9,10] [12] [zH.var 11 15 59 ((zf 16).map B)] (by kernel_rfl) (by kernel_rfl) ?_
  rintro w18 rfl
  have HS:=znq HS.znr.drew
  refine m10 ?_
  refine zL (Blk.nA (HS.znr.get 1 rfl) 3 16 _ (by exact zew L_X.out)) (HS.znr.get 1 rfl).lt zc M_X.out rfl rfl rfl (fun K hK=>?_)
  go_simp;refine hK _ ?_;clear hK K
  refine zL (HS.znr.get 2 rfl).range (HS.znr.get 2 rfl).lt zc M_H.out rfl rfl rfl (fun K hK=>?_)
  go_simp;refine hK _ ?_;clear hK K
  refine zL (HS.znr.get 0 rfl).range (HS.znr.get 0 rfl).lt zc M_Pm.out rfl rfl rfl (fun K hK=>?_)
  go_simp;refine hK _ ?_;clear hK K
  iterate 3 refine m10 ?_
  refine zL (Blk.nA (HS.znr.get 1 rfl) 19 16 _ (by exact XF L_X.out L_Y.out)) (HS.znr.get 1 rfl).lt zc M_Y.out rfl rfl rfl (fun K hK=>?_)
  go_simp;refine hK _ ?_;clear hK K
  refine yK ⟨?_,?_,xc _⟩
  ·intro f hf
   simp only [df] at hf
   subst hf
   exact zhq _ _ _ _ _ _ rfl rfl rfl rfl (by simp) zj rfl
  refine zC rfl rfl (fun uz wa17 hla K hK=>?_)
  go_simp
  have HS:=znq (HS.znr.later hla)
  refine (YZ kp q p 0 n1 k Y _ (HK.znr.later (HW.znr.trans (HS.znr.bel.mono HWL.znr))) (by omega) (by omega) L_Y.out).mono ?_
  rintro e w17 ⟨rfl,hbel⟩
  have HS:=znq (HS.znr.later hbel)
  rw [E_EA.out.1]
  go_simp
  refine hK _ _ hbel ?_
  clear hK K hbel hla
  refine zC rfl rfl (fun uz zkS hla K hK=>?_)
  refine y8 299 59 16 4 _ [X.map B,H.map B,Pm.map B,EA.map B] rfl rfl Tryz.underlying299 zF rfl (by omega) rfl (by omega) (by omega) (by simp [L_X.out,L_H.out,zkH.out,zkI.out]) ?_
  intro w18 hb hbel
  have HS:=znq (HS.znr.later (hla.trans hbel))
  refine hK _ _ hbel ?_
  have HR:=znq (show yB 16 w18 (some ⟨zkS.heap.size,0,none⟩) [X,H,Pm,EA] from ⟨by simp [L_X.out,L_H.out,zkH.out,zkI.out],by have:=hb.lies;simpa using this⟩)
  clear hK K hbel hla hb
  go_simp
  refine zC rfl rfl (fun uz wa19 hla K hK=>?_)
  go_simp
  refine (yN (some ⟨zkS.heap.size,0,none⟩) 4 4 [X,H,Pm,EA] _ rfl (by omega) (HR.znr.below hla)).mono ?_
  rintro e w19 ⟨rfl,hbel⟩
  have HS:=znq (HS.znr.later (hla.trans hbel))
  rw [E_Sm.out.1]
  go_simp
  refine hK _ _ hbel ?_
  clear hK K hbel hla HR
  refine yZ (fun zcI wb20 hlb hbx20 hbn=>?_)
  go_simp
  have HS:=znq ((HS.znr.later hlb).add (show Blk wb20 zcI ((zf 16).map B) 59 from hbn))
  clear hlb hbn
  refine zp rfl rfl (by rfl) (fun K hK=>?_)
  refine (HS.znr.get 0 rfl).mZ rfl rfl rfl zc (by simp [zd]) (by rw [yf];exact zdX.out) (zg _) (fun w20 hb ho=>hK _ _ ?_)
  clear hK K
  have HS:=znq (HS.znr.change 0 hb ho (by omega) (fun e he=>by have:=HNE.znr e he;omega))
  clear hb ho HNE hps
  go_simp
  refine zo ?_
  have hq20:=(HS.znr.get 0 rfl).lt
  have HNE:=znq HS.znr.ne
  have hps:=HS.znr.size
  go_wp2_with fail
  refine yn [0,1,2,3,4] [5,6,7] [9] [zH.var 8 16 59 ((zf 16).map B)] (by kernel_rfl) (by kernel_rfl) ?_
  rintro w28 rfl
  have HS:=znq HS.znr.drew
  refine m10 ?_
  refine zL (Blk.nA (HS.znr.get 2 rfl) 19 16 _ (by exact XF L_X.out L_Y.out)) (HS.znr.get 2 rfl).lt zc M_Y.out rfl rfl rfl (fun K hK=>?_)
  go_simp;refine hK _ ?_;clear hK K
  iterate 2 refine m10 ?_
  refine zL (HS.znr.get 0 rfl).range (HS.znr.get 0 rfl).lt zc zkQ.out rfl rfl rfl (fun K hK=>?_)
  go_simp;refine hK _ ?_;clear hK K
  refine yK ⟨?_,?_,xc _⟩
  ·intro f hf
   simp only [df] at hf
   subst hf
   exact zhq _ _ _ _ _ _ rfl rfl rfl rfl (by simp) zj rfl
  refine zC rfl rfl (fun uz wa27 hla K hK=>?_)
  go_simp
  have HS:=znq (HS.znr.later hla)
  refine (Yk kp q p n1 k Sm _ (HK.znr.later (HW.znr.trans (HS.znr.bel.mono HWL.znr))) (by omega) zdX.out).mono ?_
  rintro e w27 ⟨rfl,hbel⟩
  have HS:=znq (HS.znr.later hbel)
  rw [E_ES.out.1]
  go_simp
  refine hK _ _ hbel ?_
  clear hK K hbel hla
  refine zC rfl rfl (fun uz zkT hla K hK=>?_)
  refine y8 299 59 16 2 _ [Y.map B,ES.map B] rfl rfl Tryz.underlying299 zF rfl (by omega) rfl (by omega) (by omega) (by simp [L_Y.out,zkJ.out]) ?_
  intro w28 hb hbel
  have HS:=znq (HS.znr.later (hla.trans hbel))
  refine hK _ _ hbel ?_
  have HR:=znq (show yB 16 w28 (some ⟨zkT.heap.size,0,none⟩) [Y,ES] from ⟨by simp [L_Y.out,zkJ.out],by have:=hb.lies;simpa using this⟩)
  clear hK K hbel hla hb
  go_simp
  refine zC rfl rfl (fun uz wa29 hla K hK=>?_)
  go_simp
  refine (yN (some ⟨zkT.heap.size,0,none⟩) 2 2 [Y,ES] _ rfl (by omega) (HR.znr.below hla)).mono ?_
  rintro e w29 ⟨rfl,hbel⟩
  have HS:=znq (HS.znr.later (hla.trans hbel))
  rw [E_Tm.out.1]
  go_simp
  refine hK _ _ hbel ?_
  clear hK K hbel hla HR
  refine yZ (fun zcJ wb30 hlb hbx30 hbn=>?_)
  go_simp
  have HS:=znq ((HS.znr.later hlb).add (show Blk wb30 zcJ ((zf 16).map B) 59 from hbn))
  clear hlb hbn
  refine zp rfl rfl (by rfl) (fun K hK=>?_)
  refine (HS.znr.get 0 rfl).mZ rfl rfl rfl zc (by simp [zd]) (by rw [yf];exact zdY.out) (zg _) (fun w30 hb ho=>hK _ _ ?_)
  clear hK K
  have HS:=znq (HS.znr.change 0 hb ho (by omega) (fun e he=>by have:=HNE.znr e he;omega))
  clear hb ho HNE hps
  go_simp
  refine zo ?_
  have hq30:=(HS.znr.get 0 rfl).lt
  go_wp2_with (first | (refine (HS.znr.get 1 rfl).mP rfl rfl rfl zc zkQ.out ?_) | (refine (HS.znr.get 0 rfl).mP rfl rfl rfl zc zkR.out ?_) | (refine qQ 299 59 16 2 _ [Sm.map B,Tm.map B] rfl rfl rfl Tryz.underlying299 zF rfl (by omega) rfl (by omega) (by omega) (by simp [zdX.out,zdY.out]) ?_))
  intro w31 hb hbel
  have HS:=znq (HS.znr.later hbel)
  have HR:=znq (show yB 16 w31 (some ⟨w30.heap.size,0,none⟩) [Sm,Tm] from ⟨by simp [zdX.out,zdY.out],by have:=hb.lies;simpa using this⟩)
  clear hb hbel
  go_wp2_with fail
  refine (yN (some ⟨w30.heap.size,0,none⟩) 2 2 [Sm,Tm] _ rfl (by omega) HR.znr).mono ?_
  rintro e w32 ⟨rfl,hbel⟩
  rw [E_Z.out.1]
  have HS:=znq (HS.znr.later hbel)
  have hz32:=HS.znr.size
  have hq32:=(HS.znr.get 0 rfl).lt
  clear hbel HR
  go_wp2_with (refine ze 59 ((zf 16).map B) _ rfl rfl zj rfl ?_)
  intro w33 hb hbel;have HS:=znq (HS.znr.push hb hbel);have hlt33:=hb.lt;clear hb hbel
  go_wp2_with (refine (HS.znr.get 0 rfl).mM rfl rfl rfl rfl zc (by rw [yf];exact zd 16) M_Z.out (zg _) ?_)
  intro w34 hb34 ho34
  have hs34:=(HS.znr.get 2 rfl).lt
  have HS:=znq (show St w8 w8.heap.size w34 [(w32.heap.size,Z.map B,59),(zcJ,Tm.map B,59),(zcI,Sm.map B,59),(bp,Pm.map B,59),(bm,z4 pv (.slice ua nu uc) (.slice va nv vc) X Y,343),(bh,H.map B,59)] from HS.znr.change 0 hb34 ho34 (by omega) (by simp;omega))
  clear hb34 ho34
  generalize w32.heap.size=bz at *
  have hq34:=(HS.znr.get 0 rfl).lt
  -- two calls,two variables
  have HNE:=znq HS.znr.ne
  have hps:=HS.znr.size
  go_wp2_with fail
  refine yn [0,1,3,4] [2,5] [8,9] [zH.var 6 18 59 ((zf 16).map B),zH.var 7 19 59 ((zf 16).map B)] (by kernel_rfl) (by kernel_rfl) ?_
  rintro w35 rfl
  have HS:=znq HS.znr.drew
  refine m10 ?_
  refine zL (HS.znr.get 0 rfl).range (HS.znr.get 0 rfl).lt zc M_Z.out rfl rfl rfl (fun K hK=>?_)
  go_simp;refine hK _ ?_;clear hK K
  refine m10 ?_
  refine zL (HS.znr.get 0 rfl).range (HS.znr.get 0 rfl).lt zc M_Z.out rfl rfl rfl (fun K hK=>?_)
  go_simp;refine hK _ ?_;clear hK K
  refine yK ⟨?_,?_,xc _⟩
  ·intro f hf
   simp at hf
   rcases hf with rfl | rfl
   ·exact zhq _ _ _ _ _ _ rfl rfl rfl rfl (by simp) zj rfl
   ·exact zhq _ _ _ _ _ _ rfl rfl rfl rfl (by simp) zj rfl
  refine xD rfl rfl (fun ua' va' wa36 hla K hK=>?_)
  go_simp
  have HS:=znq (HS.znr.later hla)
  refine (Yk kp q p 4 k Z _ (HK.znr.later (HW.znr.trans (HS.znr.bel.mono HWL.znr))) (by omega) L_Z.out).mono ?_
  rintro e w36 ⟨rfl,hbel⟩
  rw [E_EU.out.1]
  have HS:=znq (HS.znr.later hbel)
  go_simp
  refine hK _ _ hbel ?_
  clear hK K hbel hla
  refine xD rfl rfl (fun ua2 va2 wa37 hla K hK=>?_)
  go_simp
  have HS:=znq (HS.znr.later hla)
  refine (Yk kp q p 5 k Z _ (HK.znr.later (HW.znr.trans (HS.znr.bel.mono HWL.znr))) (by omega) L_Z.out).mono ?_
  rintro e w37 ⟨rfl,hbel⟩
  rw [E_EV.out.1]
  have HS:=znq (HS.znr.later hbel)
  go_simp
  refine hK _ _ hbel ?_
  clear hK K hbel hla
  refine ZB (fun bu bv w38 hla hbu hbv huv hbn hbm'=>?_)
  go_simp
  have HS:=znq ((HS.znr.later hla).add (show Blk w38 bu ((zf 16).map B) 59 from hbn))
  have HS:=znq (HS.znr.add (show Blk w38 bv ((zf 16).map B) 59 from hbm'))
  clear hla hbn hbm'
  refine zp rfl rfl (by rfl) (fun K hK=>?_)
  refine (HS.znr.get 1 rfl).mZ rfl rfl rfl zc (by simp [zd]) M_EU.out (zg _) (fun w39 hb ho=>hK _ _ ?_)
  clear hK K
  have HS:=znq (HS.znr.change 1 hb ho (by omega) (fun e he=>by
   rcases uB.1 he with rfl | he
   ·exact fun e=>huv e.symm
   ·have:=HNE.znr e he;omega))
  clear hb ho
  go_simp
  refine zp rfl rfl (by rfl) (fun K hK=>?_)
  refine (HS.znr.get 0 rfl).mZ rfl rfl rfl zc (by simp [zd]) M_EV.out (zg _) (fun w40 hb ho=>hK _ _ ?_)
  clear hK K
  have HS:=znq (HS.znr.change 0 hb ho (by omega) (fun e he=>by
   rcases uB.1 he with rfl | he
   ·exact huv
   ·have:=HNE.znr e he;omega))
  clear hb ho HNE hps
  go_simp
  refine zo ?_
  have HS:=znq (show St w8 w8.heap.size w40 [(bv,EV.map B,59),(bu,EU.map B,59),(bz,Z.map B,59),(zcJ,Tm.map B,59),(zcI,Sm.map B,59),(bp,Pm.map B,59),(bm,z4 pv (.slice ua nu uc) (.slice va nv vc) X Y,343),(bh,H.map B,59)] from HS.znr)
  have HPM:=znq (HPM.znr.later HS.znr.bel)
  have HW:=znq (HW.znr.trans (HS.znr.bel.mono HWL.znr))
  have HWL:=znq (show w3.heap.size≤w40.heap.size from HW.znr.size)
  have HS:=znq HS.znr.rR
  have hq40:=(HS.znr.get 0 rfl).lt
  have hr40:=(HS.znr.get 1 rfl).lt
  have hmu:min nu 16=nu:=by omega
  have hmv:min nv 16=nv:=by omega
  have hcu:=fun (z:zG w40.drew)=>((HS.znr.drew.later z.later).get 6 rfl).cell 1 (.slice ua nu uc) rfl
  have hcv:=fun (z:zG w40.drew)=>((HS.znr.drew.later z.later).get 6 rfl).cell 2 (.slice va nv vc) rfl
  go_wp2_with fail
  refine zn [0,1,2,4,5,6,3,8,7,9,10,11] (by kernel_rfl) (by kernel_rfl) ?_
  rintro w41 rfl
  iterate 6 refine m1R ?_
  clear hcu hcv
  have HS:=znq HS.znr.drew
  refine zi rfl rfl (by rfl) (fun K hK=>?_)
  go_simp
  refine (j1 ua (some ⟨bu,0,none⟩) nu 16 uc 16 u EU _ L_u.out zkK.out (by omega) (by omega) (HLU.znr.below (HW.znr.trans (HS.znr.bel.mono HWL.znr))) ((HS.znr.get 1 rfl).lies)).mono ?_
  rintro e w42 ⟨vu,rfl,hown,hbel⟩
  rw [hmu,E_u'.out.1] at hown
  have HOU:=znq (yi hown (show w3.heap.size≤w40.drew.heap.size from HWL.znr))
  have HS:=znq (HS.znr.later hbel)
  obtain ⟨u1,c1,rfl,_,_,_⟩:=zw HOU.znr
  simp only [id]
  go_simp
  refine hK _ _ hbel ?_
  clear hK K hbel hown
  refine mqR ?_
  refine zi rfl rfl (by rfl) (fun K hK=>?_)
  go_simp
  refine (j1 va (some ⟨bv,0,none⟩) nv 16 vc 16 v EV _ L_v.out zkL.out (by omega) (by omega) (HLV.znr.below (HW.znr.trans (HS.znr.bel.mono HWL.znr))) ((HS.znr.get 0 rfl).lies)).mono ?_
  rintro e w43 ⟨vv,rfl,hown,hbel⟩
  rw [hmv,E_v'.out.1] at hown
  have HOU:=znq (zm HOU.znr hbel)
  have HOV:=znq (yi hown (show w3.heap.size≤w42.heap.size from by have:=HS.znr.size;have:=HWL.znr;omega))
  have HS:=znq (HS.znr.later hbel)
  obtain ⟨v1,c2,rfl,_,_,_⟩:=zw HOV.znr
  simp only [id]
  go_simp
  refine hK _ _ hbel ?_
  clear hK K hbel hown
  have HPM:=znq (HPM.znr.later HS.znr.bel)
  have HW:=znq (HW.znr.trans (HS.znr.bel.mono HWL.znr))
  have HWL:=znq (show w3.heap.size≤w43.heap.size from HW.znr.size)
  have HS:=znq (HS.znr.zcA HWL.znr)
  refine zp rfl rfl (by rfl) (fun K hK=>?_)
  refine (HS.znr.get 6 rfl).nO (v:=.slice u1 nu c1) (i:=1) rfl rfl rfl qo rfl rfl (by simp [z4]) (fun w44 hb ho=>hK _ _ ?_)
  clear hK K
  have HPM:=znq (HPM.znr.only (HS.znr.get 6 rfl) (by decide) ho)
  have HOU:=znq (zu HOU.znr (HS.znr.get 6 rfl) (by decide) ho)
  have HOV:=znq (zu HOV.znr (HS.znr.get 6 rfl) (by decide) ho)
  have HS:=znq (show St w43 w3.heap.size w44 [(bv,EV.map B,59),(bu,EU.map B,59),(bz,Z.map B,59),(zcJ,Tm.map B,59),(zcI,Sm.map B,59),(bp,Pm.map B,59),(bm,z4 pv (.slice u1 nu c1) (.slice va nv vc) X Y,343),(bh,H.map B,59)] from HS.znr.change 6 hb ho (by omega) (by simp;omega))
  clear hb ho
  go_simp
  refine mqR ?_
  refine zp rfl rfl (by rfl) (fun K hK=>?_)
  refine (HS.znr.get 6 rfl).nO (v:=.slice v1 nv c2) (i:=2) rfl rfl rfl qo rfl rfl (by simp [z4]) (fun w45 hb ho=>hK _ _ ?_)
  clear hK K
  have HPM:=znq (HPM.znr.only (HS.znr.get 6 rfl) (by decide) ho)
  have HOU:=znq (zu HOU.znr (HS.znr.get 6 rfl) (by decide) ho)
  have HOV:=znq (zu HOV.znr (HS.znr.get 6 rfl) (by decide) ho)
  have HS:=znq (show St w43 w3.heap.size w45 [(bv,EV.map B,59),(bu,EU.map B,59),(bz,Z.map B,59),(zcJ,Tm.map B,59),(zcI,Sm.map B,59),(bp,Pm.map B,59),(bm,z4 pv (.slice u1 nu c1) (.slice v1 nv c2) X Y,343),(bh,H.map B,59)] from HS.znr.change 6 hb ho (by omega) (by simp;omega))
  clear hb ho
  go_simp
  refine zo ?_
  have HW:=znq (HW.znr.trans HS.znr.bel)
  have HWL:=znq (show w3.heap.size≤w45.heap.size from HW.znr.size)
  have HS:=znq HS.znr.zdW
  have hq45:=(HS.znr.get 0 rfl).lt
  have hr45:=(HS.znr.get 1 rfl).lt
  have zkU:=znq (show p1.length≤900 by rw [HPL1.znr];exact HPL.znr)
  go_wp2_with fail
  refine jS (fun u v=>u.grownBy v og) [10] [0,1,2,4,5] [3,6,7,8,9] [(10,false)] [(6,[3]),(7,[3,6]),(8,[6,7])]
   (fun D x wx=>∃ x3 x28 x29 x30 v20 v86 v89 v90 v91,x={ tmps:=#[.pointer (some ⟨kp,0,none⟩),.slice ao N cap,.slice bo n cb,x3,undef,undef,undef,undef,.slice none 0 0,.int .i64 0,.int .i64 n1,.int .i64 n2,.pointer (some ⟨bh,0,none⟩),.pointer (some ⟨bm,0,none⟩),.pointer (some ⟨bp,0,none⟩),.pointer (some ⟨zcI,0,none⟩),.pointer (some ⟨zcJ,0,none⟩),.pointer (some ⟨bz,0,none⟩),.pointer (some ⟨bu,0,none⟩),.pointer (some ⟨bv,0,none⟩),v20,.bool false,.pointer (some ⟨kp,0,none⟩),.bool false,.bool false,.slice bo n cb,.int .i64 n,.bool false,x28,x29,x30,.pointer (some ⟨kp,0,none⟩),.slice ao N cap,.agg (H.map B).toArray,.slice bo n cb,.agg (z4 pv (.slice ua nu uc) (.slice va nv vc) X Y).toArray,.agg (z4 pv (.slice ua nu uc) (.slice va nv vc) X Y).toArray,.pointer (some ⟨kp,0,none⟩),v38,.agg (z4 pv (.slice ua nu uc) (.slice va nv vc) X Y).toArray,.pointer (some ⟨kp,0,none⟩),v41,v42,.agg (Pm.map B).toArray,.pointer (some ⟨bm,3,none⟩),.agg (X.map B).toArray,.agg (H.map B).toArray,.agg (Pm.map B).toArray,.pointer (some ⟨kp,0,none⟩),.int .i64 n1,.pointer (some ⟨bm,19,none⟩),.agg (Y.map B).toArray,.agg (EA.map B).toArray,.slice (some ⟨zkS.heap.size,0,none⟩) 4 4,.agg (Sm.map B).toArray,.pointer (some ⟨bm,19,none⟩),.agg (Y.map B).toArray,.pointer (some ⟨kp,0,none⟩),.int .i64 n1,.agg (Sm.map B).toArray,.agg (ES.map B).toArray,.slice (some ⟨zkT.heap.size,0,none⟩) 2 2,.agg (Tm.map B).toArray,.agg (Sm.map B).toArray,.agg (Tm.map B).toArray,.slice (some ⟨w30.heap.size,0,none⟩) 2 2,.agg (Z.map B).toArray,.pointer (some ⟨kp,0,none⟩),.agg (Z.map B).toArray,.agg (EU.map B).toArray,.pointer (some ⟨kp,0,none⟩),.agg (Z.map B).toArray,.agg (EV.map B).toArray,.pointer (some ⟨bm,1,none⟩),.slice ua nu uc,.slice (some ⟨bu,0,none⟩) 16 16,.slice u1 nu c1,.pointer (some ⟨bm,2,none⟩),.slice va nv vc,.slice (some ⟨bv,0,none⟩) 16 16,.slice v1 nv c2,.pointer (some ⟨bm,1,none⟩),.pointer (some ⟨bm,2,none⟩),.agg (z4 pv (.slice u1 nu c1) (.slice v1 nv c2) X Y).toArray,.pointer (some ⟨kp,0,none⟩),.agg (Z.map B).toArray,v86,.agg (z4 pv (.slice u1 nu c1) (.slice v1 nv c2) X Y).toArray,.pointer (some ⟨kp,0,none⟩),v89,v90,v91,undef,undef,undef,undef,undef,undef,undef,undef,undef,undef,undef,undef,undef,undef,undef,undef,undef,undef,undef,undef,undef],defers:=[] }∧Hid (St w45 w3.heap.size wx [(bv,EV.map B,59),(bu,EU.map B,59),(bz,Z.map B,59),(zcJ,Tm.map B,59),(zcI,Sm.map B,59),(bp,Pm.map B,59),(bm,z4 pv (.slice u1 nu c1) (.slice v1 nv c2) X Y,343),(bh,H.map B,59)])∧w45.heap.size≤wx.heap.size∧Hid (TI (D 3) (D 6) (D 7) (D 8) (D 9) w45.heap.size wx v86 v89 v90 v91 v20 BS TL2 Qm)∧Hid ((D 3=true→PM wx pv p2 og)∧(D 3=false→PM wx pv p1 og))∧Hid (wx.ownsRow w3.heap.size 5 1 (.slice u1 nu c1) nu (u'.map B)∧wx.ownsRow w3.heap.size 5 1 (.slice v1 nv c2) nv (v'.map B)))
   (fun a=>World.grownBy.refl a og) (fun _ _ _ h1 h2=>h1.trans h2) (by kernel_rfl) (by kernel_rfl) ?_ ?_ ?_
  ·rintro w46 rfl
   have HS:=znq HS.znr.drew
   refine qa (vs:=z4 pv (.slice u1 nu c1) (.slice v1 nv c2) X Y) (fun w' hw'=>((HS.znr.get 6 rfl).grown hw' (by intro e;have:=(HOG.znr _ e.symm).2.2;omega)).range) yG (zY L_X.out L_Y.out) rfl rfl rfl rfl (fun K hK=>?_)
   go_simp;refine hK _ ?_;clear hK K
   refine qH rfl rfl (fun K hK=>?_);go_big_quiet_step (fail);refine wpQuiet_nil (hK _ ?_);clear hK K
   refine qa (vs:=Z.map B) (fun w' hw'=>((HS.znr.get 2 rfl).grown hw' (by intro e;have:=(HOG.znr _ e.symm).2.2;omega)).range) zc M_Z.out rfl rfl rfl rfl (fun K hK=>?_)
   go_simp;refine hK _ ?_;clear hK K
   refine qa (vs:=z4 pv (.slice u1 nu c1) (.slice v1 nv c2) X Y) (fun w' hw'=>((HS.znr.get 6 rfl).grown hw' (by intro e;have:=(HOG.znr _ e.symm).2.2;omega)).range) yG (zY L_X.out L_Y.out) rfl rfl rfl rfl (fun K hK=>?_)
   go_simp;refine hK _ ?_;clear hK K
   refine qH rfl rfl (fun K hK=>?_);go_big_quiet_step (fail);refine wpQuiet_nil (hK _ ?_);clear hK K
   exact vG ⟨_,_,_,_,_,_,_,_,_,rfl,HS,xc _,TI.nought,⟨fun h=>(by cases h),fun _=>HPM.znr.later (Below.refl _ _).drew⟩,⟨HOU.znr.drew,HOV.znr.drew⟩⟩
  ·rintro D x wx kk hkM hDk rf ⟨x3,x28,x29,x30,v20,v86,v89,v90,v91,rfl,HS,hsz,HTI,HP2,zaG⟩
   simp only [uB,gB,or_false] at hkM
   rcases hkM with rfl | rfl | rfl | rfl | rfl
   ·rw [hDk] at HTI
    refine yc rfl rfl (fun K hK=>?_)
    go_simp
    refine (JH kp q p k pv p1 og _ _ X Y Z _ (HK.znr.later (HW.znr.trans HS.znr.bel)) (HP2.znr.2 hDk) zkU.znr L_Z.out).mono ?_
    rintro e w' ⟨rfl,hpm,hg⟩
    rw [E_BS.out.1]
    rw [E_p2.out.1] at hpm
    go_simp
    refine hK _ _ ⟨fun _=>hg,_,_,_,_,v20,.agg (BS.map B).toArray,v89,v90,v91,rfl,HS.znr.grown hg (fun g e=>(HOG.znr g e).2.1) (by intro e he e2;simp at he;have:=HOG.znr _ e2.symm;rcases he with rfl | rfl | rfl | rfl | rfl | rfl | rfl | rfl <;> simp at this <;> omega),uj hsz hg.size,?_,?_,⟨wD zaG.znr.1 (HP2.znr.2 hDk) (by decide) hg,wD zaG.znr.2 (HP2.znr.2 hDk) (by decide) hg⟩⟩
    ·exact znq (by simpa using HTI.znr.s2 hg (fun g e=>by have:=(HOG.znr g e).2.2;omega))
    ·exact ⟨fun _=>hpm,fun h=>by simp at h⟩
   ·have h2:=rf 3 (by simp [yE])
    obtain ⟨_,_,eu,_,_,ziQ⟩:=zw zaG.znr.1
    obtain ⟨_,_,ev,_,_,ziR⟩:=zw zaG.znr.2
    cases eu
    cases ev
    refine yc rfl rfl (fun K hK=>?_)
    go_simp
    refine (Qg kp q p k pv u1 v1 nu nv c1 c2 u' v' X Y _ (HK.znr.later (HW.znr.trans HS.znr.bel)) ziN.out ziO.out zdR zfZ ziQ ziR).mono ?_
    rintro e w' ⟨rfl,hbel⟩
    rw [zkE.out.1]
    go_simp
    refine hK _ _ ⟨fun _=>yw hbel,_,_,_,_,v20,v86,.agg (TL2.map B).toArray,v90,v91,rfl,HS.znr.later hbel,uj hsz hbel.size,?_,?_,⟨zm zaG.znr.1 hbel,zm zaG.znr.2 hbel⟩⟩
    ·exact znq (by simpa using (HTI.znr.later hbel).s5)
    ·exact ⟨fun _=>(HP2.znr.1 h2).later hbel,fun h=>by simp [h2] at h⟩
   ·have h2:=rf 3 (by simp [yE])
    have h5:=rf 6 (by simp [yE])
    obtain rfl:=HTI.znr.r2 h2
    obtain rfl:=HTI.znr.r5 h5
    refine yc rfl rfl (fun K hK=>?_)
    refine y8 299 59 16 2 _ [BS.map B,TL2.map B] rfl rfl Tryz.underlying299 zF rfl (by omega) rfl (by omega) (by omega) (by simp [zkP.out,zdZ.out]) (fun w' hb hbel=>hK _ _ ?_)
    refine ⟨fun _=>yw hbel,_,_,_,_,v20,.agg (BS.map B).toArray,.agg (TL2.map B).toArray,.slice (some ⟨wx.heap.size,0,none⟩) 2 2,v91,rfl,HS.znr.later hbel,uj hsz hbel.size,?_,?_,⟨zm zaG.znr.1 hbel,zm zaG.znr.2 hbel⟩⟩
    ·exact znq (by simpa using (HTI.znr.later hbel).s6 ⟨by simp [zkP.out,zdZ.out],by have:=hb.lies;simpa using this⟩ h2)
    ·exact ⟨fun _=>(HP2.znr.1 h2).later hbel,fun h=>by simp [h2] at h⟩
   ·have h5:=rf 6 (by simp [yE])
    obtain ⟨nr,rfl,hr,h2⟩:=HTI.znr.r6 (rf 7 (by simp [yE]))
    refine yc rfl rfl (fun K hK=>?_)
    go_simp
    refine (yN (some ⟨nr,0,none⟩) 2 2 [BS,TL2] _ rfl (by omega) hr).mono ?_
    rintro e w' ⟨rfl,hbel⟩
    rw [E_Qm.out.1]
    go_simp
    refine hK _ _ ⟨fun _=>yw hbel,_,_,_,_,v20,v86,v89,.slice (some ⟨nr,0,none⟩) 2 2,.agg (Qm.map B).toArray,rfl,HS.znr.later hbel,uj hsz hbel.size,?_,?_,⟨zm zaG.znr.1 hbel,zm zaG.znr.2 hbel⟩⟩
    ·exact znq (by simpa using (HTI.znr.later hbel).s7)
    ·exact ⟨fun _=>(HP2.znr.1 h2).later hbel,fun h=>by simp [h2] at h⟩
   ·refine yc rfl rfl (fun K hK=>?_)
    refine Yv 59 ((zf 16).map B) _ rfl zj rfl (fun w' hb hbel=>hK _ _ ?_)
    refine ⟨fun _=>yw hbel,_,_,_,_,.pointer (some ⟨wx.heap.size,0,none⟩),v86,v89,v90,v91,rfl,HS.znr.later hbel,uj hsz hbel.size,?_,?_,⟨zm zaG.znr.1 hbel,zm zaG.znr.2 hbel⟩⟩
    ·exact znq (by simpa using HTI.znr.s8 hsz hb hbel)
    ·exact ⟨fun h=>(HP2.znr.1 (by simpa using h)).later hbel,fun h=>(HP2.znr.2 (by simpa using h)).later hbel⟩
  rintro x wx ⟨x3,x28,x29,x30,v20,v86,v89,v90,v91,rfl,HS1,hsz,HTI,HP2,zaG⟩
  have HPM:=znq (HP2.znr.1 rfl)
  have HOU:=znq zaG.znr.1
  have HOV:=znq zaG.znr.2
  obtain ⟨bq,rfl,hbq,hbqb⟩:=HTI.znr.r8 rfl
  obtain rfl:=HTI.znr.r7 rfl
  have HS:=znq (HS1.znr.add hbqb)
  clear HTI HP2 HS1 hbqb zaG
  refine xL rfl (by rfl) (fun K hK=>?_)
  refine (HS.znr.get 0 rfl).mZ rfl rfl rfl zc (by simp [zd]) M_Qm.out (zg _) (fun w47 hb ho=>hK _ _ (fun h=>by cases h) ?_)
  clear hK K
  have HPM:=znq (HPM.znr.only (HS.znr.get 0 rfl) (by decide) ho)
  have HOU:=znq (zu HOU.znr (HS.znr.get 0 rfl) (by decide) ho)
  have HOV:=znq (zu HOV.znr (HS.znr.get 0 rfl) (by decide) ho)
  have HS:=znq (show St w45 w3.heap.size w47 ((bq,Qm.map B,59)::[(bv,EV.map B,59),(bu,EU.map B,59),(bz,Z.map B,59),(zcJ,Tm.map B,59),(zcI,Sm.map B,59),(bp,Pm.map B,59),(bm,z4 pv (.slice u1 nu c1) (.slice v1 nv c2) X Y,343),(bh,H.map B,59)]) from HS.znr.change 0 hb ho (by omega) (by simp;omega))
  clear hb ho
  go_simp
  refine kN ?_
  have HW:=znq (HW.znr.trans HS.znr.bel)
  have HWL:=znq (show w3.heap.size≤w47.heap.size from HW.znr.size)
  have HS:=znq HS.znr.rR
  have hq47:=(HS.znr.get 0 rfl).lt
  -- the new y
  go_wp2_with fail
  refine zn [0,1,2,3,4,5,6,7,8] (by kernel_rfl) (by kernel_rfl) ?_
  rintro w48 rfl
  have HS:=znq HS.znr.drew
  refine zt (HS.znr.get 5 rfl).range (HS.znr.get 5 rfl).lt zc zkQ.out rfl rfl rfl rfl (fun K hK=>?_)
  go_simp;refine hK _ ?_;clear hK K
  iterate 2 refine m1R ?_
  refine zt (HS.znr.get 4 rfl).range (HS.znr.get 4 rfl).lt zc zkR.out rfl rfl rfl rfl (fun K hK=>?_)
  go_simp;refine hK _ ?_;clear hK K
  refine zi rfl rfl (by rfl) (fun K hK=>?_)
  go_simp
  refine (Yk kp q p n2 k Tm _ (HK.znr.later (HW.znr.trans (HS.znr.bel.mono HWL.znr))) (by omega) zdY.out).mono ?_
  rintro e w49 ⟨rfl,hbel⟩
  have HS:=znq (HS.znr.later hbel)
  rw [E_ET.out.1]
  go_simp
  refine hK _ _ hbel ?_
  clear hK K hbel
  refine zi rfl rfl (by rfl) (fun K hK=>?_)
  refine y8 299 59 16 2 _ [Sm.map B,ET.map B] rfl rfl Tryz.underlying299 zF rfl (by omega) rfl (by omega) (by omega) (by simp [zdX.out,zkN.out]) ?_
  intro w50 hb hbel
  have HS:=znq (HS.znr.later hbel)
  have HR:=znq (show yB 16 w50 (some ⟨w49.heap.size,0,none⟩) [Sm,ET] from ⟨by simp [zdX.out,zkN.out],by have:=hb.lies;simpa using this⟩)
  refine hK _ _ hbel ?_
  clear hK K hbel hb
  go_simp
  refine zi rfl rfl (by rfl) (fun K hK=>?_)
  go_simp
  refine (yN (some ⟨w49.heap.size,0,none⟩) 2 2 [Sm,ET] _ rfl (by omega) HR.znr).mono ?_
  rintro e w51 ⟨rfl,hbel⟩
  have HS:=znq (HS.znr.later hbel)
  rw [E_Y'.out.1]
  go_simp
  refine hK _ _ hbel ?_
  clear hK K hbel HR
  refine mqR ?_
  have HPM:=znq (HPM.znr.later HS.znr.bel)
  have HOU:=znq (zm HOU.znr HS.znr.bel)
  have HOV:=znq (zm HOV.znr HS.znr.bel)
  have HW:=znq (HW.znr.trans (HS.znr.bel.mono HWL.znr))
  have HWL:=znq (show w3.heap.size≤w51.heap.size from HW.znr.size)
  have HS:=znq (HS.znr.zcA HWL.znr)
  refine zp rfl rfl (by rfl) (fun K hK=>?_)
  refine (HS.znr.get 7 rfl).pG (o:=19) (cs:=Y'.map B) rfl rfl rfl zc M_Y'.out (by rw [zY L_X.out L_Y.out];omega) (zg _) (fun w52 hb ho=>hK _ _ ?_)
  clear hK K
  rw [Wn L_X.out L_Y.out zd0.out] at hb
  have HPM:=znq (HPM.znr.only (HS.znr.get 7 rfl) (by decide) ho)
  have HOU:=znq (zu HOU.znr (HS.znr.get 7 rfl) (by decide) ho)
  have HOV:=znq (zu HOV.znr (HS.znr.get 7 rfl) (by decide) ho)
  have HS:=znq (show St w51 w3.heap.size w52 ((bq,Qm.map B,59)::[(bv,EV.map B,59),(bu,EU.map B,59),(bz,Z.map B,59),(zcJ,Tm.map B,59),(zcI,Sm.map B,59),(bp,Pm.map B,59),(bm,z4 pv (.slice u1 nu c1) (.slice v1 nv c2) X Y',343),(bh,H.map B,59)]) from HS.znr.change 7 hb ho (by omega) (by simp;omega))
  clear hb ho
  go_simp
  refine zo ?_
  have HW:=znq (HW.znr.trans HS.znr.bel)
  have HWL:=znq (show w3.heap.size≤w52.heap.size from HW.znr.size)
  have HS:=znq HS.znr.rR
  -- the new x
  go_wp2_with fail
  refine zn [0,1,2,3,4,5,6,7,8,9,10,11] (by kernel_rfl) (by kernel_rfl) ?_
  rintro w53 rfl
  have HS:=znq HS.znr.drew
  refine zt (HS.znr.get 4 rfl).range (HS.znr.get 4 rfl).lt zc zkR.out rfl rfl rfl rfl (fun K hK=>?_)
  go_simp;refine hK _ ?_;clear hK K
  refine zt (HS.znr.get 8 rfl).range (HS.znr.get 8 rfl).lt zc M_H.out rfl rfl rfl rfl (fun K hK=>?_)
  go_simp;refine hK _ ?_;clear hK K
  refine zt (HS.znr.get 0 rfl).range (HS.znr.get 0 rfl).lt zc M_Qm.out rfl rfl rfl rfl (fun K hK=>?_)
  go_simp;refine hK _ ?_;clear hK K
  iterate 3 refine m1R ?_
  refine zt (Blk.nA (HS.znr.get 7 rfl) 19 16 _ (XF L_X.out zd0.out)) (HS.znr.get 7 rfl).lt zc M_Y'.out rfl rfl rfl rfl (fun K hK=>?_)
  go_simp;refine hK _ ?_;clear hK K
  refine zi rfl rfl (by rfl) (fun K hK=>?_)
  go_simp
  refine (YZ kp q p 0 n2 k Y' _ (HK.znr.later (HW.znr.trans (HS.znr.bel.mono HWL.znr))) (by omega) (by omega) zd0.out).mono ?_
  rintro e w54 ⟨rfl,hbel⟩
  have HS:=znq (HS.znr.later hbel)
  rw [E_EY.out.1]
  go_simp
  refine hK _ _ hbel ?_
  clear hK K hbel
  refine zi rfl rfl (by rfl) (fun K hK=>?_)
  refine y8 299 59 16 4 _ [Tm.map B,H.map B,Qm.map B,EY.map B] rfl rfl Tryz.underlying299 zF rfl (by omega) rfl (by omega) (by omega) (by simp [zdY.out,L_H.out,zkM.out,zkO.out]) ?_
  intro w55 hb hbel
  have HS:=znq (HS.znr.later hbel)
  have HR:=znq (show yB 16 w55 (some ⟨w54.heap.size,0,none⟩) [Tm,H,Qm,EY] from ⟨by simp [zdY.out,L_H.out,zkM.out,zkO.out],by have:=hb.lies;simpa using this⟩)
  refine hK _ _ hbel ?_
  clear hK K hbel hb
  go_simp
  refine zi rfl rfl (by rfl) (fun K hK=>?_)
  go_simp
  refine (yN (some ⟨w54.heap.size,0,none⟩) 4 4 [Tm,H,Qm,EY] _ rfl (by omega) HR.znr).mono ?_
  rintro e w56 ⟨rfl,hbel⟩
  have HS:=znq (HS.znr.later hbel)
  rw [E_X'.out.1]
  go_simp
  refine hK _ _ hbel ?_
  clear hK K hbel HR
  refine mqR ?_
  have HPM:=znq (HPM.znr.later HS.znr.bel)
  have HOU:=znq (zm HOU.znr HS.znr.bel)
  have HOV:=znq (zm HOV.znr HS.znr.bel)
  have HW:=znq (HW.znr.trans (HS.znr.bel.mono HWL.znr))
  have HWL:=znq (show w3.heap.size≤w56.heap.size from HW.znr.size)
  have HS:=znq (HS.znr.zcA HWL.znr)
  refine zp rfl rfl (by rfl) (fun K hK=>?_)
  refine (HS.znr.get 7 rfl).pG (o:=3) (cs:=X'.map B) rfl rfl rfl zc M_X'.out (by rw [zY L_X.out zd0.out];omega) (zg _) (fun w57 hb ho=>hK _ _ ?_)
  clear hK K
  rw [Wo L_X.out ziM.out] at hb
  have HPM:=znq (HPM.znr.only (HS.znr.get 7 rfl) (by decide) ho)
  have HOU:=znq (zu HOU.znr (HS.znr.get 7 rfl) (by decide) ho)
  have HOV:=znq (zu HOV.znr (HS.znr.get 7 rfl) (by decide) ho)
  have HS:=znq (show St w56 w3.heap.size w57 ((bq,Qm.map B,59)::[(bv,EV.map B,59),(bu,EU.map B,59),(bz,Z.map B,59),(zcJ,Tm.map B,59),(zcI,Sm.map B,59),(bp,Pm.map B,59),(bm,z4 pv (.slice u1 nu c1) (.slice v1 nv c2) X' Y',343),(bh,H.map B,59)]) from HS.znr.change 7 hb ho (by omega) (by simp;omega))
  clear hb ho
  go_simp
  refine zo ?_
  have HW:=znq (HW.znr.trans HS.znr.bel)
  have HWL:=znq (show w3.heap.size≤w57.heap.size from HW.znr.size)
  obtain ⟨ap,cp,hpv,hrows⟩:=HPM.znr.rows
  rw [HPL2.znr] at hpv
  subst hpv
  obtain ⟨_,_,eu,_,_,ziQ⟩:=zw HOU.znr
  obtain ⟨_,_,ev,_,_,ziR⟩:=zw HOV.znr
  cases eu
  cases ev
  have HRW:=znq hrows
  have HLU':=znq ziQ
  have HLV':=znq ziR
  have HPMF:=znq HPM.znr.1
  clear hrows ziQ ziR
  go_wp2_with (refine (HS.znr.get 7 rfl).mP rfl rfl rfl yG (zY ziM.out zd0.out) ?_)
  go_wp2_with fail
  refine (Wj ⟨p2,u',v',X',Y'⟩ ap ps.length cp u1 v1 nu nv c1 c2 _ ⟨HPMF.znr,ziM.out,zd0.out,by rw [ziN.out];exact zdR,fun h=>List.eq_nil_of_length_eq_zero (by rw [ziO.out];exact HUV.znr (by rw [ziN.out] at h;exact h)),by rw [ziO.out];exact zfZ⟩ HPL2.znr ziN.out ziO.out HRW.znr HLU'.znr HLV'.znr (by have:=HPL.znr;omega)).mono ?_
  rintro e w58 ⟨vr,rfl,hown,hbel⟩
  rw [HRE.znr.1,HRL.znr] at hown
  have HO:=znq (yi hown (show w.heap.size≤w57.heap.size from by rw [HBB.znr];have:=HWL.znr;omega))
  have HBE:=znq (show Below w.heap.size w w58 from by
   rw [HBB.znr]
   exact (ziP.znr.trans (HW.znr.mono hbb3)).trans (hbel.mono (by have:=HWL.znr;omega)))
  clear hown hbel
  go_wp2
  go_ret2
  exact ⟨_,rfl,by first | exact HO.znr | (have:=HO.znr;rw [HBB.znr] at this;exact this),by first | exact HBE.znr | (have:=HBE.znr;rw [HBB.znr] at this;exact this)⟩
end Go.Proofs.YtamdifhibogdiaaGreatDoor
namespace Go.Proofs.YtamdifhibogdiaaGreatDoor
open RowKit Mem Ops Cells Oct Gf Trn Aes Ring Ezk Ezh Ezt Ezc Aez Blake ru Fl
attribute [local irreducible] zE zN zO zM yu
theorem jv:Row Tryz.prog 227 1:=⟨by kernel_rfl,by kernel_rfl⟩
theorem zn8:(Tryz.prog.info? 227).map (·.zero)=some (some (.agg #[.pointer none])):=by kernel_rfl
theorem Kn:Tryz.prog.concrete 227=true:=by kernel_rfl
theorem JM (v:Value) (w:World):(Instr.typeAssert (.iface 227 v) 168 227 true).run Tryz.prog w=.ok (.tuple #[v,.bool true]) w:=by kernel_rfl
structure zoe (w:World) (cp kp q p:Nat) (k:zv):Prop where
 key:xH w kp q p k
 blk:Blk w cp [.int .i64 3,.iface 227 (.agg #[.pointer (some ⟨kp,0,none⟩)])] 172
theorem zoe.later {w w':World} {cp kp q p:Nat} {k:zv} (h:zoe w cp kp q p k) (hb:Below w.heap.size w w'):zoe w' cp kp q p k:=⟨h.key.later hb,h.blk.below hb h.blk.lt⟩
theorem XJ (cp kp q p:Nat) (k:zv) (w:World) (hc:zoe w cp kp q p k):Calls Tryz.prog 136 #[.pointer (some ⟨cp,0,none⟩)] w fun e w'=>e=.returned (.int .i64 3)∧w=w':=by
 have hc0:=hc.blk.cell 0 _ rfl
 clear hc
 go_enter Tryz.func136,Tryz.ntmps136
 go_wp2
 go_ret
 exact ⟨rfl,rfl⟩
theorem zp3 (cp kp q p:Nat) (k:zv) (w:World) (hc:zoe w cp kp q p k):Calls Tryz.prog 175 #[.pointer (some ⟨cp,0,none⟩)] w fun e w'=>e=.returned (.tuple #[.agg #[.pointer (some ⟨kp,0,none⟩)],.int .i64 0])∧Below w.heap.size w w':=by
 have HC:=znq hc
 have hae:=JM (.agg #[.pointer (some ⟨kp,0,none⟩)])
 have HS:=znq (St.start w)
 clear hc
 go_enter Tryz.func175,Tryz.ntmps175
 go_wp2_with (refine ze 227 [.pointer none] _ rfl rfl zn8 rfl ?_)
 intro w1 hb hbel;have HS:=znq (HS.znr.push hb hbel);have hlt1:=hb.lt;have HC:=znq (HC.znr.later hbel);clear hb hbel
 have hc1:=HC.znr.blk.cell 1 _ rfl
 go_wp2_with (refine ze 227 [.pointer none] _ rfl rfl zn8 rfl ?_)
 intro w2 hb hbel;have HS:=znq (HS.znr.push hb hbel);have hlt2:=hb.lt;clear hb hbel hc1
 go_wp2_with (refine (HS.znr.get 0 rfl).mM rfl rfl rfl (cs:=[.pointer (some ⟨kp,0,none⟩)]) rfl jv rfl rfl (by simp [Value.oneCell']) ?_)
 intro w3 hb3 ho3
 have HS:=znq (HS.znr.change 0 hb3 ho3 (by omega) (by simp;omega))
 clear hb3 ho3
 go_wp2_with (first | (refine (HS.znr.get 0 rfl).mP rfl rfl rfl jv rfl ?_) | (refine (HS.znr.get 1 rfl).mM rfl rfl rfl (cs:=[.pointer (some ⟨kp,0,none⟩)]) rfl jv rfl rfl (by simp [Value.oneCell']) ?_))
 intro w4 hb4 ho4
 have HB:=znq (zk HS.znr.bel ho4 (by omega))
 go_wp2
 refine hb4.zaN rfl rfl rfl rfl jv rfl ⟨rfl,HB.znr⟩
theorem JI (q p:Nat) (ao:Option Addr) (n cap:Nat) (b:List UInt8) (w:World) (hb:b.length=n) (hn0:0 < n) (hn1:n≤128) (hc:n≤cap) (hl:zr w ao (b.map B)) (ht:Tab w q p) (hg:qD w) :
  Calls Tryz.prog 95 #[.pointer (some ⟨q,0,none⟩),.int .i64 3,.slice ao n cap] w fun e w'=>∃ kp,e=.returned (.tuple #[.iface 227 (.agg #[.pointer (some ⟨kp,0,none⟩)]),.int .i64 0])∧xH w' kp q p (zqx b)∧w.heap.size≤kp∧Below w.heap.size w w':=by
 have HN:=znq hb
 have HL:=znq hl
 have HT:=znq ht
 have HG:=znq hg
 have hmk:=fun (x:Value) (w:World)=>run_makeInterface (P:=Tryz.prog) (w:=w) 227 x Kn
 clear hb hl ht hg
 go_enter Tryz.func95,Tryz.ntmps95
 go_wp2_with fail
 refine (zet q p ao n cap b _ HN.znr hn0 hn1 hc HL.znr HT.znr HG.znr).mono ?_
 rintro e w1 ⟨kp,rfl,hk,hle,hbel⟩
 have HK:=znq hk
 have HB:=znq hbel
 clear hk hbel
 go_wp2
 go_ret2
 exact ⟨_,rfl,HK.znr,hle,HB.znr⟩
theorem zsu (q:Nat) (ao:Option Addr) (n cap:Nat) (w:World) (hn:n=0∨128 < n) :
  Calls Tryz.prog 95 #[.pointer (some ⟨q,0,none⟩),.int .i64 3,.slice ao n cap] w fun e w'=>e=.returned (.tuple #[.iface 227 (.agg #[.pointer none]),.int .i64 2])∧w=w':=by
 have hmk:=fun (x:Value) (w:World)=>run_makeInterface (P:=Tryz.prog) (w:=w) 227 x Kn
 have HN:=znq hn
 clear hn
 go_enter Tryz.func95,Tryz.ntmps95
 go_wp2_with fail
 refine (zss q ao n cap _ HN.znr).mono ?_
 rintro e w1 ⟨rfl,rfl⟩
 go_wp2
 go_ret2
 exact ⟨rfl,rfl⟩
theorem zoo (q p:Nat) (ao:Option Addr) (n cap:Nat) (b:List UInt8) (w:World) (hb:b.length=n) (hn0:0 < n) (hn1:n≤128) (hc:n≤cap) (hl:zr w ao (b.map B)) (ht:Tab w q p) (hg:qD w) :
  Calls Tryz.prog 54 #[.pointer (some ⟨q,0,none⟩),.int .i64 3,.slice ao n cap] w fun e w'=>∃ cp kp,e=.returned (.tuple #[.pointer (some ⟨cp,0,none⟩),.int .i64 0])∧zoe w' cp kp q p (zqx b)∧Below w.heap.size w w':=by
 have HN:=znq hb
 have HL:=znq hl
 have HT:=znq ht
 have HG:=znq hg
 clear hb hl ht hg
 go_enter Tryz.func54,Tryz.ntmps54
 go_wp2_with fail
 refine (JI q p ao n cap b _ HN.znr hn0 hn1 hc HL.znr HT.znr HG.znr).mono ?_
 rintro e w1 ⟨kp,rfl,hk,hle,hbel⟩
 have HK:=znq hk
 have HB:=znq hbel
 clear hk hbel
 go_wp2_with (refine zh 172 _ [.int .i64 3,.iface 227 (.agg #[.pointer (some ⟨kp,0,none⟩)])] _ rfl rfl rfl rfl ?_)
 intro w2 hb2 mV
 have HC:=znq (show zoe w2 w1.heap.size kp q p (zqx b) from ⟨HK.znr.later mV,hb2⟩)
 have HB:=znq (HB.znr.trans (mV.mono HB.znr.size))
 clear hb2 mV
 go_wp2
 go_ret2
 exact ⟨_,_,rfl,HC.znr,HB.znr⟩
theorem zo3 (q:Nat) (ao:Option Addr) (n cap:Nat) (w:World) (hn:n=0∨128 < n) :
  Calls Tryz.prog 54 #[.pointer (some ⟨q,0,none⟩),.int .i64 3,.slice ao n cap] w fun e w'=>e=.returned (.tuple #[.pointer none,.int .i64 2])∧w=w':=by
 have HN:=znq hn
 clear hn
 go_enter Tryz.func54,Tryz.ntmps54
 go_wp2_with fail
 refine (zsu q ao n cap _ HN.znr).mono ?_
 rintro e w1 ⟨rfl,rfl⟩
 go_wp2
 go_ret2
 exact ⟨rfl,rfl⟩
theorem zci (kp q p:Nat) (k:zv) (ao:Option Addr) (N cap:Nat) (ss:List Str) (bo:Option Addr) (n cb:Nat) (m:List UInt8) (back:Bool) (w:World) (hk:xH w kp q p k) (hN:ss.length=N) (hN1:N≤500) (hs:xY w ao ss) (hlen:∀ s∈ss,s.bs.length≤10000)
  (hn:m.length=n) (h1:1≤n) (h31:n≤20000) (hcb:n≤cb) (hl:zr w bo (m.map B)) :
  Calls Tryz.prog 176 #[.agg #[.pointer (some ⟨kp,0,none⟩)],.slice ao N cap,.slice bo n cb,.bool back] w fun e w'=>∃ v,e=.returned (.tuple #[v,.int .i64 0])∧w'.ownsRow w.heap.size 5 1 v n ((tK k (rowOf ss) m back).map B)∧Below w.heap.size w w':=by
 have HK:=znq hk
 have HNN:=znq hN
 have HS:=znq hs
 have HLEN:=znq hlen
 have HN:=znq hn
 have HL:=znq hl
 have HBK:∀ w0:World,xH w0 kp q p k→zr w0 bo (m.map B)→xY w0 ao ss→Calls Tryz.prog (if n < 32 then 207 else 208) #[.pointer (some ⟨kp,0,none⟩),.slice ao N cap,.slice bo n cb,.bool back] w0 fun e w'=>∃ v,e=.returned (.tuple #[v,.int .i64 0])∧w'.ownsRow w0.heap.size 5 1 v n ((tK k (rowOf ss) m back).map B)∧Below w0.heap.size w0 w':=by
  intro w0 hk0 hl0 hs0
  by_cases h32:n < 32
  ·rw [if_pos h32,W4 (by rw [hn];exact h32)]
   cases back
   ·exact zmg kp q p k ao N cap ss bo n cb m _ hk0 hN hN1 hs0 hlen hn h1 (by omega) hl0
   ·exact zmh kp q p k ao N cap ss bo n cb m _ hk0 hN hN1 hs0 hlen hn h1 (by omega) hl0
  ·rw [if_neg h32,W5 (by rw [hn];exact h32)]
   cases back
   ·exact zx false kp q p k ao N cap ss bo n cb m _ hk0 hN hN1 hs0 hlen hn (by omega) h31 hcb hl0
   ·exact zx true kp q p k ao N cap ss bo n cb m _ hk0 hN hN1 hs0 hlen hn (by omega) h31 hcb hl0
 have HBK:=znq HBK
 generalize tK k (rowOf ss) m back=Rr at *
 clear hk hN hs hlen hn hl
 by_cases h32:n < 32
 ·have hd:decide ((n:Int) < 32)=true:=by simp;omega
  rw [if_pos h32] at HBK
  clear h32
  go_enter Tryz.func176,Tryz.ntmps176
  go_wp2_with (refine zh 227 _ [.pointer (some ⟨kp,0,none⟩)] _ rfl rfl rfl rfl ?_)
  intro w1 hb hbel
  have hc0:=hb.cell 0 _ rfl
  have HB:=znq hbel
  clear hb hbel
  go_wp2_with fail
  refine (HBK.znr _ (HK.znr.later HB.znr) (HL.znr.below HB.znr) (HS.znr.below HB.znr)).mono ?_
  rintro e w2 ⟨v2,rfl,hown2,mV⟩
  have HO:=znq (yi hown2 HB.znr.size)
  have HB:=znq (HB.znr.trans (mV.mono HB.znr.size))
  clear hown2 mV
  go_wp2
  go_ret2
  exact ⟨_,rfl,HO.znr,HB.znr⟩
 ·have hd:decide ((n:Int) < 32)=false:=by simp;omega
  rw [if_neg h32] at HBK
  clear h32
  go_enter Tryz.func176,Tryz.ntmps176
  go_wp2_with (refine zh 227 _ [.pointer (some ⟨kp,0,none⟩)] _ rfl rfl rfl rfl ?_)
  intro w1 hb hbel
  have hc0:=hb.cell 0 _ rfl
  have HB:=znq hbel
  clear hb hbel
  go_wp2_with fail
  refine (HBK.znr _ (HK.znr.later HB.znr) (HL.znr.below HB.znr) (HS.znr.below HB.znr)).mono ?_
  rintro e w2 ⟨v2,rfl,hown2,mV⟩
  have HO:=znq (yi hown2 HB.znr.size)
  have HB:=znq (HB.znr.trans (mV.mono HB.znr.size))
  clear hown2 mV
  go_wp2
  go_ret2
  exact ⟨_,rfl,HO.znr,HB.znr⟩
theorem zpj (cp kp q p:Nat) (k:zv) (ao:Option Addr) (N cap:Nat) (ss:List Str) (bo:Option Addr) (n cb:Nat) (m:List UInt8) (back:Bool) (w:World) (hk:zoe w cp kp q p k) (hN:ss.length=N) (hN1:N≤500) (hs:xY w ao ss) (hlen:∀ s∈ss,s.bs.length≤10000)
  (hn:m.length=n) (h1:1≤n) (h31:n≤20000) (hcb:n≤cb) (hl:zr w bo (m.map B)) :
  Calls Tryz.prog 138 #[.pointer (some ⟨cp,0,none⟩),.slice ao N cap,.slice bo n cb,.bool back] w fun e w'=>∃ v,e=.returned (.tuple #[v,.int .i64 0])∧w'.ownsRow w.heap.size 5 1 v n ((tK k (rowOf ss) m back).map B)∧Below w.heap.size w w':=by
 have HK:=znq hk
 have HNN:=znq hN
 have HST:=znq hs
 have HLEN:=znq hlen
 have HN:=znq hn
 have HL:=znq hl
 have HS:=znq (St.start w)
 clear hk hN hs hlen hn hl
 go_enter Tryz.func138,Tryz.ntmps138
 go_wp2_with fail
 refine (zp3 cp kp q p k _ HK.znr).mono ?_
 rintro e w1 ⟨rfl,hbel⟩
 have HS:=znq (HS.znr.later hbel)
 have hz1:=HS.znr.size
 clear hbel
 go_wp2_with (refine ze 227 [.pointer none] _ rfl rfl zn8 rfl ?_)
 intro w2 hb hbel;have HS:=znq (HS.znr.push hb hbel);have hlt2:=hb.lt;clear hb hbel
 go_wp2_with (refine (HS.znr.get 0 rfl).mM rfl rfl rfl (cs:=[.pointer (some ⟨kp,0,none⟩)]) rfl jv rfl rfl (by simp [Value.oneCell']) ?_)
 intro w3 hb3 ho3
 have HS:=znq (HS.znr.change 0 hb3 ho3 (by omega) (by simp))
 clear hb3 ho3
 go_wp2_with (refine (HS.znr.get 0 rfl).mP rfl rfl rfl jv rfl ?_)
 go_wp2_with fail
 refine (zci kp q p k ao N cap ss bo n cb m back _ (HK.znr.later HS.znr.bel).key HNN.znr hN1 (HST.znr.below HS.znr.bel) HLEN.znr HN.znr h1 h31 hcb (HL.znr.below HS.znr.bel)).mono ?_
 rintro e w4 ⟨v4,rfl,zbU,nD⟩
 have HO:=znq (yi zbU HS.znr.size)
 have HB:=znq (HS.znr.bel.trans (nD.mono HS.znr.size))
 clear zbU nD
 go_wp2
 go_ret2
 exact ⟨_,rfl,HO.znr,HB.znr⟩
end Go.Proofs.YtamdifhibogdiaaGreatDoor
