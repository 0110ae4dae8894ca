/-
  Texts of this claim, one behind the other.
-/
import Derived.Test.YtamdifhibogdiaaGreatDoorX1
import Derived.Test.YtamdifhibogdiaaGreatDoorX12
import Derived.Test.YtamdifhibogdiaaGreatDoorX3
import Derived.Test.YtamdifhibogdiaaGreatDoorX6
import Derived.Lib.Hide
set_option linter.unusedVariables false
set_option linter.unusedSimpArgs false
set_option maxHeartbeats 16000000
set_option maxRecDepth 100000
open Array renaming getElem?_eq_getElem→dK,getElem?_eq_none→gH,replicate→uS
open List renaming all_eq_true→WI,append_assoc→QA,append_nil→bC,cons_append→dF,contains_iff_mem→uw,drop_eq_nil_of_le→Yx,drop_left→cZ,filter_cons_of_neg→uu,filter_cons_of_pos→uq,filter_eq_nil_iff→bS,filter_eq_self→dV,length_cons→uh,length_map→yf,length_take→Ku,map_append→uI,mem_append→gP,mem_cons→uB,mem_filter→uK,mem_of_getElem?→xU,mem_singleton→df,not_mem_nil→gB,take_left→bX,take_of_length_le→Y2
open Nat renaming le_refl→xc,le_trans→uj
namespace Go.Proofs.YtamdifhibogdiaaGreatDoor
open RowKit Mem Ops Cells Oct Gf Trn Aes Ring Ezk Ezh Ezt Ezc ru Fl
attribute [local irreducible] zE zN zO zM yu
def wj (A M R:List UInt8) (tl:List Value):List Value:=(A++M++R).map B++tl
theorem Wk {A a b R:List UInt8} {tl:List Value} {o:Nat} (ho:A.length=o) (ha:a.length=16):((wj A (a++b) R tl).drop o).take 16=a.map B:=by
 subst ho
 unfold wj
 rw [QA A,uI,QA,show A.length=(A.map B).length by simp,cZ,QA a,uI,QA,show (16:Nat)=(a.map B).length by simp [ha],bX]
theorem XG {A a b R:List UInt8} {tl:List Value} {o:Nat} (ho:A.length=o) (ha:a.length=16) (hb:b.length=16):((wj A (a++b) R tl).drop (o+16)).take 16=b.map B:=by
 subst ho
 unfold wj
 rw [show A++(a++b)++R=(A++a)++(b++R) by simp,uI,QA,show A.length+16=((A++a).map B).length by simp [ha],cZ,uI,QA,show (16:Nat)=(b.map B).length by simp [hb],bX]
theorem zce {A M C R:List UInt8} {tl:List Value} {o:Nat} (ho:A.length=o) (h:C.length=M.length):(wj A M R tl).take o++C.map B++(wj A M R tl).drop (o+(C.map B).length)=wj A C R tl:=by
 subst ho
 unfold wj
 have e1:((A++M++R).map B++tl).take A.length=A.map B:=by
  rw [QA A,uI,QA,show A.length=(A.map B).length by simp,bX]
 have e2:((A++M++R).map B++tl).drop (A.length+(C.map B).length)=R.map B++tl:=by
  rw [uI,QA,show A.length+(C.map B).length=((A++M).map B).length by simp [h],cZ]
 rw [e1,e2,uI,uI]
 simp [QA]
theorem zcf {A M R:List UInt8} {tl:List Value} (h:M.length=32):A.length+32≤(wj A M R tl).length:=by
 unfold wj;simp [h]
theorem zf1 {α:Type} {l:List α} {i:Nat} {x:α} (h:l[i]? = some x):l.drop i=x::l.drop (i+1):=by
 obtain ⟨hl,he⟩:=List.getElem?_eq_some_iff.1 h
 rw [List.drop_eq_getElem_cons hl,he]
theorem Kj (k:zv):∀ (ps:y9) (n:Nat) (p:List UInt8×List UInt8),yh k n (ps++[p])=yh k n ps++[(wOf k (n+ps.length) p,xOf k (n+ps.length) p)]
 | [],n,p=>by simp [yh]
 | q::ps,n,p=>by
  simp only [dF,yh,Kj k ps (n+1) p,uh]
  rw [show n+1+ps.length=n+(ps.length+1) by omega]
theorem jc:∀ (ps qs:y9),zV (ps++qs)=zV ps++zV qs
 | [],_=>rfl
 | p::ps,qs=>by simp only [dF,zV,jc ps qs,QA]
theorem zj8 (kp q p:Nat) (k:zv) (pb np cp:Nat) (ps:y9) (tl:List Value) (uv vv:Value) (x y:List UInt8) (w:World) (hk:xH w kp q p k) (hnp:ps.length=np) (hf:∀ r∈ps,xO r)
  (hp:Blk w pb ((zV ps).map B++tl) 363) (hb:np≤900) :
  Calls Tryz.prog 240 #[.agg (z4 (.slice (some ⟨pb,0,none⟩) np cp) uv vv x y).toArray,.pointer (some ⟨kp,0,none⟩)] w fun e w'=>e=.returned (.agg ((qK k 0 (zf 16) ps).map B).toArray)∧Blk w' pb ((zV (yh k 0 ps)).map B++tl) 363∧zI pb w w':=by
 have n1:kp≠pb:=hk.blk.ne' hp (by decide)
 have n2:q≠pb:=hk.tab.tab.ne' hp (by decide)
 have n3:p≠pb:=hk.tab.boxes.ne' hp (by decide)
 have HK:=znq hk
 have HNP:=znq hnp
 have HF:=znq hf
 have hpb:=hp.lt
 have HS:=znq ((Su.start pb w).add hp)
 obtain ⟨V,hV⟩:∃ V,V=z4 (.slice (some ⟨pb,0,none⟩) np cp) uv vv x y:=⟨_,rfl⟩
 have HVV:=znq (show V=z4 (.slice (some ⟨pb,0,none⟩) np cp) uv vv x y∧True from ⟨hV,trivial⟩)
 obtain ⟨S,hS⟩:∃ S,S=qK k 0 (zf 16) ps:=⟨_,rfl⟩
 have HSS:=znq (show qK k 0 (zf 16) ps=S∧True from ⟨hS.symm,trivial⟩)
 rw [← hV,← hS]
 clear hk hnp hf hp hV hS
 go_enter Tryz.func240,Tryz.ntmps240
 go_wp2_with (refine zh 343 _ (V) _ rfl rfl rfl rfl ?_)
 intro w1 hb hbel;have HS:=znq (HS.znr.push hb hbel);have hlt1:=hb.lt;clear hb hbel
 go_wp2_with (refine ze 59 ((zf 16).map B) _ rfl rfl zj rfl ?_)
 intro w2 hb hbel;have HS:=znq (HS.znr.push hb hbel);have hlt2:=hb.lt;clear hb hbel
 go_wp2_with (refine ze 59 ((zf 16).map B) _ rfl rfl zj rfl ?_)
 intro w3 hb hbel;have HS:=znq (HS.znr.push hb hbel);have hlt3:=hb.lt;clear hb hbel
 generalize hbb:w.heap.size=bb at *
 generalize w1.heap.size=bw1 at *
 generalize w2.heap.size=bw2 at *
 have HBB:=znq hbb
 clear hbb
 have hc0:=(HS.znr.get 2 rfl).cell 0 (.slice (some ⟨pb,0,none⟩) np cp) (by rw [HVV.znr.1];rfl)
 go_wp2
 go_loopw [12] (fun c wr=>∃ (i:Nat) (sum:List UInt8),i≤np∧c=.int .i64 i∧Hid (sum.length=16)∧Hid (qK k i sum (ps.drop i)=S∧True)∧Hid (Su w pb wr [(bw2,sum.map B,59),(bw1,(zf 16).map B,59),(bb,V,343),(pb,(zV (yh k 0 (ps.take i)++ps.drop i)).map B++tl,363)])) (fun c _=>np - (intOf c).toNat)
 case atStart=>exact ⟨0,zf 16,by omega,rfl,znq (zd 16),HSS,HS⟩
 case round =>
  clear HS hc0
  obtain ⟨i,sum,hi,rfl,HX,HE,HS⟩:=hrel
  have HXM:=znq (show (sum.map B).length=16 by rw [yf];exact HX.znr)
  have hr2:=(HS.znr.get 0 rfl).lt
  by_cases hlt:i < np
  ·obtain ⟨⟨a,b⟩,hpi⟩:∃ r,ps[i]? = some r:=⟨ps[i]'(by rw [HNP.znr];exact hlt),by simp⟩
   have hd:=zf1 hpi
   have hab:=HF.znr _ (xU hpi)
   have HA:=znq (show a.length=16 from hab.1)
   have HB:=znq (show b.length=16 from hab.2)
   have HAM:=znq (show (a.map B).length=16 by rw [yf];exact hab.1)
   have HBM:=znq (show (b.map B).length=16 by rw [yf];exact hab.2)
   have hAl:(zV (yh k 0 (ps.take i))).length=i*32:=by
    rw [vn _ (Xz k _ _),xF,Ku,HNP.znr];omega
   have hn1:zV (yh k 0 (ps.take (i+1))++ps.drop (i+1))=zV (yh k 0 (ps.take i))++(wOf k i (a,b)++xOf k i (a,b))++zV (ps.drop (i+1)):=by
    rw [XE hpi,Kj,Ku,HNP.znr,show 0+min i np=i by omega,jc,vR]
   have he:=HE.znr.1
   rw [hd] at he
   have HE:=znq (show qK k (i+1) (plusB [sum,xOf k i (a,b)]) (ps.drop (i+1))=S∧True from ⟨he,trivial⟩)
   have hs:=HS.znr
   rw [hd,jc,show zV ((a,b)::ps.drop (i+1))=a++b++zV (ps.drop (i+1)) from rfl,← QA] at hs
   have HN1:=znq (And.intro hn1 trivial)
   obtain ⟨A,hA⟩:∃ A,A=zV (yh k 0 (ps.take i)):=⟨_,rfl⟩
   obtain ⟨R,hR⟩:∃ R,R=zV (ps.drop (i+1)):=⟨_,rfl⟩
   rw [← hA,← hR] at hs HN1
   rw [← hA] at hAl
   have HAL:=znq hAl
   have HS:=znq (show Su w pb wr [(bw2,sum.map B,59),(bw1,(zf 16).map B,59),(bb,V,343),(pb,wj A (a++b) R tl,363)] from hs)
   clear hpi hd hab hAl hn1 he hs hA hR
   obtain ⟨i1,hi1⟩:∃ i1,i1=i+1:=⟨_,rfl⟩
   have hni:(i:Int)+1=(i1:Int):=by omega
   have hi9:i1≤1000:=by omega
   have HW:=znq (show plusB [a,pM k 1 i1 b]=wOf k i (a,b)∧True from ⟨by rw [hi1];rfl,trivial⟩)
   have HI1:=znq (show i1=i+1∧True from ⟨hi1,trivial⟩)
   clear hi1
   have hc0:=fun (z:zG wr.drew)=>((HS.znr.drew.later z.later).get 2 rfl).cell 0 (.slice (some ⟨pb,0,none⟩) np cp) (by rw [HVV.znr.1];rfl)
   have HNE:=znq HS.znr.ne
   have hps:=HS.znr.size
   go_wp2_with fail
   refine yn [0,1,2,3,4,5,6,7,8,9,10,11,12,13,14] [15,16,17] [19] [zH.var 18 7 59 ((zf 16).map B)] (by kernel_rfl) (by kernel_rfl) ?_
   rintro w3 rfl
   have HS:=znq HS.znr.drew
   iterate 5 refine m10 ?_
   refine zL (Blk.nA (HS.znr.get 3 rfl) (i*32) 16 _ (by exact Wk HAL.znr HA.znr)) (HS.znr.get 3 rfl).lt zc HAM.znr rfl rfl rfl (fun K hK=>?_)
   go_simp;refine hK _ ?_;clear hK K
   iterate 8 refine m10 ?_
   refine zL (Blk.nA (HS.znr.get 3 rfl) (i*32+16) 16 _ (by exact XG HAL.znr HA.znr HB.znr)) (HS.znr.get 3 rfl).lt zc HBM.znr rfl rfl rfl (fun K hK=>?_)
   go_simp;refine hK _ ?_;clear hK K
   clear hc0
   refine yK ⟨?_,?_,xc _⟩
   ·intro f hf
    simp only [df] at hf
    subst hf
    exact zhq _ _ _ _ _ _ rfl rfl rfl rfl (by simp) zj rfl
   refine zC rfl rfl (fun uz wa5 hla K hK=>?_)
   go_simp
   have HS:=znq (HS.znr.later hla)
   refine (YZ kp q p 1 i1 k b _ (HK.znr.pR HS.znr.only n1 n2 n3) (by omega) hi9 HB.znr).mono ?_
   rintro e w5 ⟨rfl,hbel⟩
   have HS:=znq (HS.znr.later hbel)
   go_simp
   refine hK _ _ hbel ?_
   clear hK K hbel hla
   have HEL:=znq (yo k 1 i1 b)
   generalize pM k 1 i1 b=eb at *
   refine zC rfl rfl (fun uz wa6 hla K hK=>?_)
   refine y8 299 59 16 2 _ [a.map B,eb.map B] rfl rfl Tryz.underlying299 zF rfl (by omega) rfl (by omega) (by omega) (by simp [HA.znr,HEL.znr]) ?_
   intro w6 hb hbel
   have HS:=znq (HS.znr.later (hla.trans hbel))
   refine hK _ _ hbel ?_
   have HR:=znq (show yB 16 w6 (some ⟨wa6.heap.size,0,none⟩) [a,eb] from ⟨by simp [HA.znr,HEL.znr],by have:=hb.lies;simpa using this⟩)
   clear hK K hbel hla hb
   go_simp
   refine zC rfl rfl (fun uz wa7 hla K hK=>?_)
   go_simp
   refine (yN (some ⟨wa6.heap.size,0,none⟩) 2 2 [a,eb] _ rfl (by omega) (HR.znr.below hla)).mono ?_
   rintro e w7 ⟨rfl,hbel⟩
   have HS:=znq (HS.znr.later (hla.trans hbel))
   rw [HW.znr.1]
   go_simp
   refine hK _ _ hbel ?_
   clear hK K hbel hla HR
   have HWL:=znq (Xv k i (a,b))
   have HXX:=znq (Xw k i (a,b))
   have HX1:=znq (show plusB [b,pM k 0 0 (wOf k i (a,b))]=xOf k i (a,b)∧True from ⟨rfl,trivial⟩)
   generalize wOf k i (a,b)=W at *
   generalize xOf k i (a,b)=X at *
   refine yZ (fun bx8 wb8 hlb hbx8 hbn=>?_)
   go_simp
   have HS:=znq ((HS.znr.later hlb).add (show Blk wb8 bx8 ((zf 16).map B) 59 from hbn))
   clear hlb hbn
   refine zp rfl rfl (by rfl) (fun K hK=>?_)
   refine (HS.znr.get 0 rfl).mZ rfl rfl rfl zc (by simp [zd]) (by rw [yf];exact HWL.znr) (zg _) (fun w8 hb ho=>hK _ _ ?_)
   clear hK K
   have HS:=znq (HS.znr.change 0 hb ho (.inl (by omega)) (fun e he=>by have:=HNE.znr e he;omega))
   clear hb ho HNE hps
   go_simp
   refine zo ?_
   have hr8:=(HS.znr.get 0 rfl).lt
   have hc0:=fun (z:zG w8.drew)=>((HS.znr.drew.later z.later).get 3 rfl).cell 0 (.slice (some ⟨pb,0,none⟩) np cp) (by rw [HVV.znr.1];rfl)
   have HWM:=znq (show (W.map B).length=16 by rw [yf];exact HWL.znr)
   have HNE:=znq HS.znr.ne
   have hps:=HS.znr.size
   go_wp2_with fail
   refine yn [0,1,2,3,4,5,6,7] [8,9,10] [12] [zH.var 11 8 59 ((zf 16).map B)] (by kernel_rfl) (by kernel_rfl) ?_
   rintro w9 rfl
   have HS:=znq HS.znr.drew
   iterate 5 refine m10 ?_
   refine zL (Blk.nA (HS.znr.get 4 rfl) (i*32+16) 16 _ (by exact XG HAL.znr HA.znr HB.znr)) (HS.znr.get 4 rfl).lt zc HBM.znr rfl rfl rfl (fun K hK=>?_)
   go_simp;refine hK _ ?_;clear hK K
   refine m10 ?_
   refine zL (HS.znr.get 0 rfl).range (HS.znr.get 0 rfl).lt zc HWM.znr rfl rfl rfl (fun K hK=>?_)
   go_simp;refine hK _ ?_;clear hK K
   clear hc0
   refine yK ⟨?_,?_,xc _⟩
   ·intro f hf
    simp only [df] at hf
    subst hf
    exact zhq _ _ _ _ _ _ rfl rfl rfl rfl (by simp) zj rfl
   refine zC rfl rfl (fun uz wa10 hla K hK=>?_)
   go_simp
   have HS:=znq (HS.znr.later hla)
   refine (YZ kp q p 0 0 k W _ (HK.znr.pR HS.znr.only n1 n2 n3) (by omega) (by omega) HWL.znr).mono ?_
   rintro e w10 ⟨rfl,hbel⟩
   have HS:=znq (HS.znr.later hbel)
   go_simp
   refine hK _ _ hbel ?_
   clear hK K hbel hla
   have HEL2:=znq (yo k 0 0 W)
   generalize pM k 0 0 W=ew at *
   refine zC rfl rfl (fun uz wa11 hla K hK=>?_)
   refine y8 299 59 16 2 _ [b.map B,ew.map B] rfl rfl Tryz.underlying299 zF rfl (by omega) rfl (by omega) (by omega) (by simp [HB.znr,HEL2.znr]) ?_
   intro w11 hb hbel
   have HS:=znq (HS.znr.later (hla.trans hbel))
   refine hK _ _ hbel ?_
   have HR:=znq (show yB 16 w11 (some ⟨wa11.heap.size,0,none⟩) [b,ew] from ⟨by simp [HB.znr,HEL2.znr],by have:=hb.lies;simpa using this⟩)
   clear hK K hbel hla hb
   go_simp
   refine zC rfl rfl (fun uz wa12 hla K hK=>?_)
   go_simp
   refine (yN (some ⟨wa11.heap.size,0,none⟩) 2 2 [b,ew] _ rfl (by omega) (HR.znr.below hla)).mono ?_
   rintro e w12 ⟨rfl,hbel⟩
   have HS:=znq (HS.znr.later (hla.trans hbel))
   rw [HX1.znr.1]
   go_simp
   refine hK _ _ hbel ?_
   clear hK K hbel hla HR
   refine yZ (fun zkC wb13 hlb hbx13 hbn=>?_)
   go_simp
   have HS:=znq ((HS.znr.later hlb).add (show Blk wb13 zkC ((zf 16).map B) 59 from hbn))
   clear hlb hbn
   refine zp rfl rfl (by rfl) (fun K hK=>?_)
   refine (HS.znr.get 0 rfl).mZ rfl rfl rfl zc (by simp [zd]) (by rw [yf];exact HXX.znr) (zg _) (fun w13 hb ho=>hK _ _ ?_)
   clear hK K
   have HS:=znq (HS.znr.change 0 hb ho (.inl (by omega)) (fun e he=>by have:=HNE.znr e he;omega))
   clear hb ho HNE hps
   go_simp
   refine zo ?_
   have HXXM:=znq (show (X.map B).length=16 by rw [yf];exact HXX.znr)
   have hbp:=XD W X HWL.znr HXX.znr
   have hc0:=(HS.znr.get 4 rfl).cell 0 (.slice (some ⟨pb,0,none⟩) np cp) (by rw [HVV.znr.1];rfl)
   have hlp:=HS.znr.size
   go_wp2_with (first | (refine (HS.znr.get 1 rfl).mP rfl rfl rfl zc HWM.znr ?_) | (refine (HS.znr.get 0 rfl).mP rfl rfl rfl zc HXXM.znr ?_) | (refine xZ 363 _ _ _ rfl rfl rfl hbp ?_) | (refine (HS.znr.get 5 rfl).zaU (o:=i*32) (cs:=W.map B++X.map B) rfl rfl rfl rfl vt (by simp [HWL.znr,HXX.znr]) (by have:=zcf (A:=A) (R:=R) (tl:=tl) (M:=a++b) (by simp [HA.znr,HB.znr]);rw [HAL.znr] at this;exact this) (by intro u hu;rcases gP.1 hu with hu | hu <;> exact zg _ _ hu) ?_))
   intro w14 zbP zcP
   have zbP:Blk w14 pb (wj A (W++X) R tl) 363:=by
    rw [← zce (A:=A) (M:=a++b) (C:=W++X) (R:=R) (tl:=tl) HAL.znr (by simp [HA.znr,HB.znr,HWL.znr,HXX.znr])]
    simpa [QA] using zbP
   have HS:=znq (show Su w pb w14 [(zkC,X.map B,59),(bx8,W.map B,59),(bw2,sum.map B,59),(bw1,(zf 16).map B,59),(bb,V,343),(pb,wj A (W++X) R tl,363)] from HS.znr.change 5 zbP zcP (.inr rfl) (by simp;omega))
   clear zbP zcP hbp hc0
   have HSL:=znq (mO [sum,X])
   go_wp2_with (first | (refine (HS.znr.get 2 rfl).mP rfl rfl rfl zc HXM.znr ?_) | (refine (HS.znr.get 0 rfl).mP rfl rfl rfl zc HXXM.znr ?_) | (refine qQ 299 59 16 2 _ [sum.map B,X.map B] rfl rfl rfl Tryz.underlying299 zF rfl (by omega) rfl (by omega) (by omega) (by simp [HX.znr,HXX.znr]) ?_))
   intro w15 hb hbel
   have HS:=znq (HS.znr.later hbel)
   have HR:=znq (show yB 16 w15 (some ⟨w14.heap.size,0,none⟩) [sum,X] from ⟨by simp [HX.znr,HXX.znr],by have:=hb.lies;simpa using this⟩)
   clear hb hbel
   go_wp2_with fail
   refine (yN (some ⟨w14.heap.size,0,none⟩) 2 2 [sum,X] _ rfl (by omega) HR.znr).mono ?_
   rintro e w16 ⟨rfl,hbel⟩
   have HS:=znq (HS.znr.later hbel)
   generalize plusB [sum,X]=s2 at *
   clear hbel HR
   go_wp2_with (refine (HS.znr.get 2 rfl).mM rfl rfl rfl rfl zc HXM.znr (by rw [yf];exact HSL.znr) (zg _) ?_)
   intro w17 zcZ zdP
   have HS:=znq (show Su w pb w17 [(zkC,X.map B,59),(bx8,W.map B,59),(bw2,s2.map B,59),(bw1,(zf 16).map B,59),(bb,V,343),(pb,wj A (W++X) R tl,363)] from HS.znr.change 2 zcZ zdP (.inl (by have:=HBB.znr;omega)) (by simp;omega))
   have HS:=znq (show Su w pb w17 [(bw2,s2.map B,59),(bw1,(zf 16).map B,59),(bb,V,343),(pb,(zV (yh k 0 (ps.take (i+1))++ps.drop (i+1))).map B++tl,363)] from by rw [HN1.znr.1];exact HS.znr.zdV)
   clear zcZ zdP
   go_wp2
   go_roundw
   case rel=>exact ⟨i+1,s2,by omega,by rw [← HI1.znr.1],HSL,HE,HS⟩
   case measure=>have:=HI1.znr.1;simp [intOf];omega
  ·obtain rfl:i=np:=by omega
   have HE:=znq (show sum=S∧True from ⟨by have:=HE.znr.1;rwa [Yx (by rw [HNP.znr];exact xc _)] at this,trivial⟩)
   have HS:=znq (show Su w pb wr [(bw2,sum.map B,59),(bw1,(zf 16).map B,59),(bb,V,343),(pb,(zV (yh k 0 ps)).map B++tl,363)] from by
    have:=HS.znr
    rwa [Yx (by rw [HNP.znr];exact xc _),Y2 (by rw [HNP.znr];exact xc _),bC] at this)
   go_wp2_with (first | (refine (HS.znr.get 0 rfl).mP rfl rfl rfl zc HXM.znr ?_) | (refine (HS.znr.get 1 rfl).mM rfl rfl rfl rfl zc (by rw [yf];exact zd 16) HXM.znr (zg _) ?_))
   intro w6 hb6 ho6
   have HS:=znq (HS.znr.change 1 hb6 ho6 (.inl (by have:=HBB.znr;omega)) (by simp;omega))
   have HP:=znq (HS.znr.get 3 rfl)
   go_wp2
   refine hb6.result rfl rfl rfl zc HXM.znr ⟨by rw [HE.znr.1],HP.znr,HS.znr.only⟩
end Go.Proofs.YtamdifhibogdiaaGreatDoor
namespace Go
open RowKit
section
variable {P:Program} {ops:Array Oper} {Q:Exit→Act→World→Prop} {md:Region.Mode}
def Yt:List Nat→List (List Nat)
 | []=>[[]]
 | i::r=>Yt r++(Yt r).map (i::·)
theorem XH (D:Nat→Bool):∀ (M:List Nat),M.filter D∈Yt M
 | []=>by simp [Yt]
 | i::r=>by
  have ih:=XH D r
  by_cases h:D i=true
  ·rw [uq h]
   exact List.mem_append_right _ (List.mem_map.2 ⟨_,ih,rfl⟩)
  ·rw [uu h]
   exact List.mem_append_left _ ih
def yE (need:List (Nat×List Nat)) (k:Nat):List Nat:=((need.find? fun p=>p.1==k).map (·.2)).getD []
def Region.sw (md:Region.Mode) (ops:Array Oper) (M:List Nat) (need:List (Nat×List Nat)) (listed:Array Bool):Bool :=
 (Yt M).all fun S=>(S==M || !(S.all fun k=>(yE need k).all fun d=>S.contains d)) || (!(Region.ready md ops (Region.plus listed S)).isEmpty && (Region.ready md ops (Region.plus listed S)).all fun k=>M.contains k && !S.contains k && (yE need k).all fun d=>S.contains d)
theorem Wl (listed:Array Bool) (M:List Nat) (D:Nat→Bool) (k:Nat) (hk:k∈M):Region.plus listed (M.filter fun j=>D j || j==k)=(Region.plus listed (M.filter D)).setIfInBounds k true:=by
 apply Array.ext_getElem?
 intro j
 rw [Zz,Array.getElem?_setIfInBounds]
 by_cases e:k=j
 ·subst e
  rw [if_pos rfl]
  have hc:(M.filter fun j=>D j || j==k).contains k=true:=by simp [hk]
  rw [hc]
  by_cases hb:k < listed.size
  ·have h2:k < (Region.plus listed (M.filter D)).size:=by
    have:=Zz (M.filter D) listed k
    rw [dK hb] at this
    exact (Array.getElem?_eq_some_iff.1 this).1
   rw [if_pos h2,dK hb]
   simp
  ·have h2:¬ k < (Region.plus listed (M.filter D)).size:=by
    intro h2
    have:=Zz (M.filter D) listed k
    rw [show listed[k]? = none from gH (by omega),dK h2] at this
    cases this
   rw [if_neg h2,gH (by omega)]
   rfl
 ·rw [if_neg e,Zz]
  have hc:(M.filter fun j=>D j || j==k).contains j=(M.filter D).contains j:=by
   rw [Bool.eq_iff_iff]
   simp only [uw,uK,Bool.or_eq_true,beq_iff_eq]
   constructor
   ·rintro ⟨h1,h2 | h2⟩
    ·exact ⟨h1,h2⟩
    ·exact absurd h2.symm e
   ·rintro ⟨h1,h2⟩
    exact ⟨h1,.inl h2⟩
  rw [hc]
theorem Yu (M:List Nat) (need:List (Nat×List Nat)) (I:(Nat→Bool)→Act→World→Prop) (listed:Array Bool) (R:Nat) (hc:Region.sw md ops M need listed=true)
  (hstep:∀ D a w k,k∈M→D k=false→(∀ d∈yE need k,D d=true)→I D a w→wpOp P ops Q k (fun a' w'=>((ops[k]?).map Oper.nR≠some 2→zW w w')∧I (fun j=>D j || j==k) a' w') a w)
  (hend:∀ a w fuel,R≤fuel→I (fun j=>M.contains j) a w→qJ P md ops Q fuel (Region.plus listed M) a w) :
  ∀ (n:Nat) (D:Nat→Bool) (a:Act) (w:World) (fuel:Nat),(M.filter fun j=>!D j).length≤n→(∀ j,D j=true→j∈M)→(∀ j,D j=true→∀ d∈yE need j,D d=true)→I D a w→n+R≤fuel→qJ P md ops Q fuel (Region.plus listed (M.filter D)) a w
 | 0,D,a,w,fuel,hn,hD,hcl,hI,hf=>by
  have hall:∀ j∈M,D j=true:=by
   intro j hj
   have h0:=List.eq_nil_of_length_eq_zero (Nat.le_zero.1 hn)
   rw [bS] at h0
   have:=h0 j hj
   simpa using this
  have e1:M.filter D=M:=dV.2 hall
  have e2:D=fun j=>M.contains j:=by
   funext j
   rw [Bool.eq_iff_iff,uw]
   exact ⟨hD j,hall j⟩
  rw [e1]
  exact hend a w fuel (by omega) (e2 ▸ hI)
 | n+1,D,a,w,fuel,hn,hD,hcl,hI,hf=>by
  by_cases h0:(M.filter fun j=>!D j).length=0
  ·exact Yu M need I listed R hc hstep hend 0 D a w fuel (by omega) hD hcl hI (by omega)
  obtain ⟨f,rfl⟩:∃ f,fuel=f+1:=⟨fuel - 1,by omega⟩
  unfold Region.sw at hc
  rw [WI] at hc
  have hS:=hc _ (XH D M)
  rw [Bool.or_eq_true,Bool.or_eq_true] at hS
  rcases hS with (hS | hS) | hS
  ·exfalso
   have e:M.filter D=M:=by simpa using hS
   have hall:=dV.1 e
   have h1:M.filter (fun j=>!D j)=[]:=by
    rw [bS]
    intro j hj
    simp [hall j hj]
   exact h0 (by rw [h1];rfl)
  ·exfalso
   have:((M.filter D).all fun k=>(yE need k).all fun d=>(M.filter D).contains d)=true:=by
    rw [WI]
    intro k hk
    rw [WI]
    intro d hd
    have hk':=(uK.1 hk).2
    have hd':=hcl k hk' d hd
    rw [uw]
    exact uK.2 ⟨hD d hd',hd'⟩
   rw [this] at hS
   cases hS
  ·rw [Bool.and_eq_true,WI] at hS
   obtain ⟨h1,h2⟩:=hS
   refine ⟨fun h=>(by rw [h] at h1;simp at h1),fun k hk=>?_⟩
   have hk2:=h2 k hk
   simp only [Bool.and_eq_true,uw,WI,Bool.not_eq_true'] at hk2
   obtain ⟨⟨hkM,hkS⟩,rf⟩:=hk2
   have hDk:D k=false:=by
    cases hd:D k with
    | false=>rfl
    | true =>
     rw [← uw] at hkM
     have:(M.filter D).contains k=true:=by simp [hd];simpa using hkM
     rw [this] at hkS;cases hkS
   refine wpOp_mono (fun a' w' h'=>⟨h'.1,?_⟩) (hstep D a w k hkM hDk (fun d hd=>by have:=rf d hd;rw [uK] at this;exact this.2) hI)
   rw [← Wl listed M D k hkM]
   refine Yu M need I listed R (by unfold Region.sw;rw [WI];exact hc) hstep hend n _ a' w' f ?_ ?_ ?_ h'.2 (by omega)
   ·-- one less
    have key:∀ (l:List Nat),k∈l→(l.filter fun j=>!(D j || j==k)).length < (l.filter fun j=>!D j).length:=by
     intro l
     induction l with
     | nil=>intro h;cases h
     | cons x r ih =>
      intro hm
      have hle:∀ (l:List Nat),(l.filter fun j=>!(D j || j==k)).length≤(l.filter fun j=>!D j).length:=by
       intro l
       induction l with
       | nil=>simp
       | cons y s ih2 =>
        by_cases hy:D y=true
        ·rw [uu (by simp [hy]),uu (by simp [hy])];exact ih2
        ·by_cases hyk:y=k
         ·rw [uu (by simp [hyk]),uq (by simp [hy])];simp only [uh];omega
         ·rw [uq (by simp [hy,hyk]),uq (by simp [hy])];simp only [uh];omega
      by_cases hx:x=k
      ·subst hx
       rw [uu (by simp),uq (by simp [hDk]),uh]
       exact Nat.lt_succ_of_le (hle r)
      ·have hr:k∈r:=by
        rcases uB.1 hm with h | h
        ·exact absurd h.symm hx
        ·exact h
       have:=ih hr
       by_cases hdx:D x=true
       ·rw [uu (by simp [hdx]),uu (by simp [hdx])];exact this
       ·rw [uq (by simp [hdx,hx]),uq (by simp [hdx])];simp only [uh];omega
    have:=key M hkM
    omega
   ·intro j hj
    simp only [Bool.or_eq_true,beq_iff_eq] at hj
    rcases hj with hj | rfl
    ·exact hD j hj
    ·exact hkM
   ·intro j hj d hd
    simp only [Bool.or_eq_true,beq_iff_eq] at hj ⊢
    left
    rcases hj with hj | rfl
    ·exact hcl j hj d hd
    ·have:=rf d hd
     rw [uK] at this
     exact this.2
theorem zmj {k:Nat} {o:Oper} {a:Act} {w:World} {K:Act→World→Prop} (ho:ops[k]? = some o) (hg:o.guard=none) (h:o.wp P a w K Q):wpOp P ops Q k K a w:=by
 unfold wpOp
 simp [ho,Region.wanted,hg]
 exact .inl h
theorem yc {k:Nat} {o:Oper} {a:Act} {w:World} {G:Act→World→Prop} (ho:ops[k]? = some o) (hg:o.guard=none) (h:∀ K:Act→World→Prop,(∀ a' w',G a' w'→K a' w')→o.wp P a w K Q):wpOp P ops Q k G a w :=
 zmj ho hg (h G fun _ _ h=>h)
theorem zcg {id:Nat} {l:List Oper} {a:Act} {w:World} (s0 M s2:List Nat) (need:List (Nat×List Nat)) (I:(Nat→Bool)→Act→World→Prop) (hm:P.follows .mixedOrders=true)
  (hB:(Region.noSelect l.toArray && (s0.length+(M.length+s2.length)==l.toArray.size) && Region.tT .any l.toArray s0 (uS l.toArray.size false) && Region.sw .any l.toArray M need (s0.foldl (fun l i=>l.setIfInBounds i true) (uS l.toArray.size false)) &&
   Region.si .any l.toArray s2 (Region.plus (s0.foldl (fun l i=>l.setIfInBounds i true) (uS l.toArray.size false)) M))=true)
  (h:∀ w',w'=w.drew→zO P l.toArray (fun a w1=>I (fun _=>false) a w1) s0 a w')
  (hstep:∀ D a w k,k∈M→D k=false→(∀ d∈yE need k,D d=true)→I D a w→wpOp P l.toArray (NoPanic Q) k (fun a' w'=>((l.toArray[k]?).map Oper.nR≠some 2→zW w w')∧I (fun j=>D j || j==k) a' w') a w)
  (hend:∀ a w,I (fun j=>M.contains j) a w→zE P l.toArray (NoPanic Q) s2 a w):(Code.region id l.toArray true).wp P Q a w:=by
 simp only [Bool.and_eq_true,beq_iff_eq] at hB
 obtain ⟨⟨⟨⟨hs,hl⟩,h0⟩,hI⟩,hR⟩:=hB
 refine wp_region_noPanic (wp_region_any hm (vK _ _ _ _ ?_))
 suffices key:qJ P .any l.toArray (NoPanic Q) (s0.length+(M.length+s2.length)) (uS l.toArray.size false) a w.drew by
  rw [hl] at key;exact key
 refine Yf hs (fun c a w hq=>hq) _ _ s0 _ a w.drew h0 (h _ rfl) ?_
 intro a1 w1 h1
 have:=Yu M need I _ s2.length hI hstep (fun a w fuel hf hk=>Ye _ _ _ _ _ hf (xu hs (fun c a w hq=>hq) s2 _ a w hR (hend a w hk))) M.length (fun _=>false) a1 w1 (M.length+s2.length) (List.length_filter_le _ _) (by simp) (by simp) h1 (xc _)
 rw [show M.filter (fun _=>false)=[] from bS.2 (by simp)] at this
 exact this
end
end Go
namespace Go.Cells
open RowKit
theorem Yv {P:Program} {w:World} {o:Oper} {a:Act} {K:Act→World→Prop} {Q:Exit→Act→World→Prop} (t:TypeId) (vs:List Value) (z:Value)
  (ho:o.op=.alloc t) (hz:(P.info? t).map (·.zero)=some (some z)) (hv:z.cells=vs.toArray)
  (k:∀ w',Blk w' w.heap.size vs t→Below w.heap.size w w'→K (a.put o.dst (.pointer (some ⟨w.heap.size,0,none⟩))) w'):o.wp P a w K Q:=by
 have hk:=k (w.alloc (.cells vs.toArray t)) (Blk.new w vs t) (zD w _)
 cases hq:P.info? t with
 | none=>rw [hq] at hz;cases hz
 | some x =>
  rw [hq] at hz
  have hx:x.zero=some z:=by simpa using hz
  unfold Oper.wp
  simp [execOp,ho,Instr.alloc,zeroValue,typeInfo,hq,hx,newVar,newRow,hv]
  exact hk
end Go.Cells
namespace Go.Proofs.YtamdifhibogdiaaGreatDoor
open RowKit Mem Ops Cells Oct Gf Trn Aes Ring Ezk Ezh Ezt Ezc ru Fl
attribute [local irreducible] zE zN zO zM yu
structure BI (D:Nat→Bool) (base:Nat) (w:World) (v10 v11 v31 v32 v40 v41:Value) (a b E Y U:List UInt8):Prop where
 r7:D 7=true→∃ n,v31=.slice (some ⟨n,0,none⟩) 2 2∧yB 16 w (some ⟨n,0,none⟩) [a,E]
 r16:D 16=true→∃ n,v40=.slice (some ⟨n,0,none⟩) 2 2∧yB 16 w (some ⟨n,0,none⟩) [b,E]
 r8:D 8=true→v32=.agg (Y.map B).toArray
 r17:D 17=true→v41=.agg (U.map B).toArray
 r18:D 18=true→∃ n,v10=.pointer (some ⟨n,0,none⟩)∧base≤n∧Blk w n ((zf 16).map B) 59
 r19:D 19=true→∃ n,v11=.pointer (some ⟨n,0,none⟩)∧base≤n∧Blk w n ((zf 16).map B) 59
 ne:D 18=true→D 19=true→v10≠v11
section
variable {D:Nat→Bool} {base:Nat} {w w':World} {v10 v11 v31 v32 v40 v41:Value} {a b E Y U:List UInt8}
theorem BI.nought (v10 v11 v31 v32 v40 v41:Value):BI (fun _=>false) base w v10 v11 v31 v32 v40 v41 a b E Y U :=
 ⟨fun h=>(by cases h),fun h=>(by cases h),fun h=>(by cases h),fun h=>(by cases h),fun h=>(by cases h),fun h=>(by cases h),fun h=>(by cases h)⟩
theorem BI.later (h:BI D base w v10 v11 v31 v32 v40 v41 a b E Y U) (hb:Below w.heap.size w w'):BI D base w' v10 v11 v31 v32 v40 v41 a b E Y U :=
 ⟨fun x=>by obtain ⟨n,e,r⟩:=h.r7 x;exact ⟨n,e,r.below hb⟩,fun x=>by obtain ⟨n,e,r⟩:=h.r16 x;exact ⟨n,e,r.below hb⟩,h.r8,h.r17,
  fun x=>by obtain ⟨n,e,r,s⟩:=h.r18 x;exact ⟨n,e,r,s.below hb s.lt⟩,fun x=>by obtain ⟨n,e,r,s⟩:=h.r19 x;exact ⟨n,e,r,s.below hb s.lt⟩,h.ne⟩
theorem BI.s7 (h:BI D base w v10 v11 v31 v32 v40 v41 a b E Y U) {n:Nat} (hr:yB 16 w (some ⟨n,0,none⟩) [a,E]):BI (fun j=>D j || j==7) base w v10 v11 (.slice (some ⟨n,0,none⟩) 2 2) v32 v40 v41 a b E Y U :=
 ⟨fun _=>⟨n,rfl,hr⟩,fun x=>h.r16 (by simpa using x),fun x=>h.r8 (by simpa using x),fun x=>h.r17 (by simpa using x),fun x=>h.r18 (by simpa using x),fun x=>h.r19 (by simpa using x),fun x y=>h.ne (by simpa using x) (by simpa using y)⟩
theorem BI.s16 (h:BI D base w v10 v11 v31 v32 v40 v41 a b E Y U) {n:Nat} (hr:yB 16 w (some ⟨n,0,none⟩) [b,E]):BI (fun j=>D j || j==16) base w v10 v11 v31 v32 (.slice (some ⟨n,0,none⟩) 2 2) v41 a b E Y U :=
 ⟨fun x=>h.r7 (by simpa using x),fun _=>⟨n,rfl,hr⟩,fun x=>h.r8 (by simpa using x),fun x=>h.r17 (by simpa using x),fun x=>h.r18 (by simpa using x),fun x=>h.r19 (by simpa using x),fun x y=>h.ne (by simpa using x) (by simpa using y)⟩
theorem BI.s8 (h:BI D base w v10 v11 v31 v32 v40 v41 a b E Y U):BI (fun j=>D j || j==8) base w v10 v11 v31 (.agg (Y.map B).toArray) v40 v41 a b E Y U :=
 ⟨fun x=>h.r7 (by simpa using x),fun x=>h.r16 (by simpa using x),fun _=>rfl,fun x=>h.r17 (by simpa using x),fun x=>h.r18 (by simpa using x),fun x=>h.r19 (by simpa using x),fun x y=>h.ne (by simpa using x) (by simpa using y)⟩
theorem BI.s17 (h:BI D base w v10 v11 v31 v32 v40 v41 a b E Y U):BI (fun j=>D j || j==17) base w v10 v11 v31 v32 v40 (.agg (U.map B).toArray) a b E Y U :=
 ⟨fun x=>h.r7 (by simpa using x),fun x=>h.r16 (by simpa using x),fun x=>h.r8 (by simpa using x),fun _=>rfl,fun x=>h.r18 (by simpa using x),fun x=>h.r19 (by simpa using x),fun x y=>h.ne (by simpa using x) (by simpa using y)⟩
theorem BI.s18 (h:BI D base w v10 v11 v31 v32 v40 v41 a b E Y U) (hB:base≤w.heap.size) (hbl:Blk w' w.heap.size ((zf 16).map B) 59) (hb:Below w.heap.size w w'):BI (fun j=>D j || j==18) base w' (.pointer (some ⟨w.heap.size,0,none⟩)) v11 v31 v32 v40 v41 a b E Y U:=by
 have h':=h.later hb
 refine ⟨fun x=>h'.r7 (by simpa using x),fun x=>h'.r16 (by simpa using x),fun x=>h'.r8 (by simpa using x),fun x=>h'.r17 (by simpa using x),fun _=>⟨_,rfl,hB,hbl⟩,fun x=>h'.r19 (by simpa using x),fun _ y=>?_⟩
 obtain ⟨n,e,_,s⟩:=h.r19 (by simpa using y)
 rw [e]
 intro hh
 have:=s.lt
 simp at hh
 try omega
theorem BI.s19 (h:BI D base w v10 v11 v31 v32 v40 v41 a b E Y U) (hB:base≤w.heap.size) (hbl:Blk w' w.heap.size ((zf 16).map B) 59) (hb:Below w.heap.size w w'):BI (fun j=>D j || j==19) base w' v10 (.pointer (some ⟨w.heap.size,0,none⟩)) v31 v32 v40 v41 a b E Y U:=by
 have h':=h.later hb
 refine ⟨fun x=>h'.r7 (by simpa using x),fun x=>h'.r16 (by simpa using x),fun x=>h'.r8 (by simpa using x),fun x=>h'.r17 (by simpa using x),fun x=>h'.r18 (by simpa using x),fun _=>⟨_,rfl,hB,hbl⟩,fun x _=>?_⟩
 obtain ⟨n,e,_,s⟩:=h.r18 (by simpa using x)
 rw [e]
 intro hh
 have:=s.lt
 simp at hh
 try omega
end
theorem Qh (k:zv) (z:List UInt8):∀ (ps:y9) (n:Nat) (p:List UInt8×List UInt8),z6 k z n (ps++[p])=z6 k z n ps++[(vm k z (n+ps.length) p,qS k z (n+ps.length) p)]
 | [],n,p=>by simp [z6]
 | q::ps,n,p=>by
  simp only [dF,z6,Qh k z ps (n+1) p,uh]
  rw [show n+1+ps.length=n+(ps.length+1) by omega]
theorem zhc (kp q p:Nat) (k:zv) (pb np cp:Nat) (ps:y9) (tl:List Value) (uv vv:Value) (x y z:List UInt8) (w:World) (hk:xH w kp q p k) (hnp:ps.length=np) (hf:∀ r∈ps,xO r) (hz:z.length=16)
  (hp:Blk w pb ((zV ps).map B++tl) 363) (hb:np≤900) :
  Calls Tryz.prog 242 #[.agg (z4 (.slice (some ⟨pb,0,none⟩) np cp) uv vv x y).toArray,.pointer (some ⟨kp,0,none⟩),.agg (z.map B).toArray] w fun e w'=>e=.returned (.agg ((xN k z 0 (zf 16) ps).map B).toArray)∧Blk w' pb ((zV (z6 k z 0 ps)).map B++tl) 363∧zI pb w w':=by
 have n1:kp≠pb:=hk.blk.ne' hp (by decide)
 have n2:q≠pb:=hk.tab.tab.ne' hp (by decide)
 have n3:p≠pb:=hk.tab.boxes.ne' hp (by decide)
 have HK:=znq hk
 have HNP:=znq hnp
 have HF:=znq hf
 have HZ:=znq hz
 have HZM:=znq (show (z.map B).length=16 by rw [yf];exact hz)
 have hpb:=hp.lt
 have HS:=znq ((Su.start pb w).add hp)
 obtain ⟨V,hV⟩:∃ V,V=z4 (.slice (some ⟨pb,0,none⟩) np cp) uv vv x y:=⟨_,rfl⟩
 have HVV:=znq (show V=z4 (.slice (some ⟨pb,0,none⟩) np cp) uv vv x y∧True from ⟨hV,trivial⟩)
 obtain ⟨S,hS⟩:∃ S,S=xN k z 0 (zf 16) ps:=⟨_,rfl⟩
 have HSS:=znq (show xN k z 0 (zf 16) ps=S∧True from ⟨hS.symm,trivial⟩)
 rw [← hV,← hS]
 clear hk hnp hf hp hV hS hz
 go_enter Tryz.func242,Tryz.ntmps242
 go_wp2_with (refine zh 343 _ (V) _ rfl rfl rfl rfl ?_)
 intro w1 hb hbel;have HS:=znq (HS.znr.push hb hbel);have hlt1:=hb.lt;clear hb hbel
 go_wp2_with (refine zh 59 _ (z.map B) _ rfl rfl rfl rfl ?_)
 intro w2 hb hbel;have HS:=znq (HS.znr.push hb hbel);have hlt2:=hb.lt;clear hb hbel
 go_wp2_with (refine ze 59 ((zf 16).map B) _ rfl rfl zj rfl ?_)
 intro w3 hb hbel;have HS:=znq (HS.znr.push hb hbel);have hlt3:=hb.lt;clear hb hbel
 go_wp2_with (refine ze 59 ((zf 16).map B) _ rfl rfl zj rfl ?_)
 intro w4 hb hbel;have HS:=znq (HS.znr.push hb hbel);have zaE:=hb.lt;clear hb hbel
 generalize hbb:w.heap.size=bb at *
 generalize w1.heap.size=bw1 at *
 generalize w2.heap.size=bw2 at *
 generalize w3.heap.size=bw3 at *
 have HBB:=znq hbb
 clear hbb
 have hc0:=(HS.znr.get 3 rfl).cell 0 (.slice (some ⟨pb,0,none⟩) np cp) (by rw [HVV.znr.1];rfl)
 go_wp2
 go_loopw [16] (fun c wr=>∃ (i:Nat) (sum:List UInt8),i≤np∧c=.int .i64 i∧Hid (sum.length=16)∧Hid (xN k z i sum (ps.drop i)=S∧True)∧Hid (Su w pb wr [(bw3,sum.map B,59),(bw2,(zf 16).map B,59),(bw1,z.map B,59),(bb,V,343),(pb,(zV (z6 k z 0 (ps.take i)++ps.drop i)).map B++tl,363)])) (fun c _=>np - (intOf c).toNat)
 case atStart=>exact ⟨0,zf 16,by omega,rfl,znq (zd 16),HSS,HS⟩
 case round =>
  clear HS hc0
  obtain ⟨i,sum,hi,rfl,HX,HE,HS⟩:=hrel
  have HXM:=znq (show (sum.map B).length=16 by rw [yf];exact HX.znr)
  have hr2:=(HS.znr.get 0 rfl).lt
  by_cases hlt:i < np
  ·obtain ⟨⟨a,b⟩,hpi⟩:∃ r,ps[i]? = some r:=⟨ps[i]'(by rw [HNP.znr];exact hlt),by simp⟩
   have hd:=zf1 hpi
   have hab:=HF.znr _ (xU hpi)
   have HA:=znq (show a.length=16 from hab.1)
   have HB:=znq (show b.length=16 from hab.2)
   have HAM:=znq (show (a.map B).length=16 by rw [yf];exact hab.1)
   have HBM:=znq (show (b.map B).length=16 by rw [yf];exact hab.2)
   have hAl:(zV (z6 k z 0 (ps.take i))).length=i*32:=by
    rw [vn _ (wy k z _ _),qm,Ku,HNP.znr];omega
   have hn1:zV (z6 k z 0 (ps.take (i+1))++ps.drop (i+1))=zV (z6 k z 0 (ps.take i))++(vm k z i (a,b)++qS k z i (a,b))++zV (ps.drop (i+1)):=by
    rw [XE hpi,Qh,Ku,HNP.znr,show 0+min i np=i by omega,jc,vR]
   have he:=HE.znr.1
   rw [hd] at he
   have HE:=znq (show xN k z (i+1) (plusB [sum,yOf k z i (a,b)]) (ps.drop (i+1))=S∧True from ⟨he,trivial⟩)
   have hs:=HS.znr
   rw [hd,jc,show zV ((a,b)::ps.drop (i+1))=a++b++zV (ps.drop (i+1)) from rfl,← QA] at hs
   have HN1:=znq (And.intro hn1 trivial)
   obtain ⟨A,hA⟩:∃ A,A=zV (z6 k z 0 (ps.take i)):=⟨_,rfl⟩
   obtain ⟨R,hR⟩:∃ R,R=zV (ps.drop (i+1)):=⟨_,rfl⟩
   rw [← hA,← hR] at hs HN1
   rw [← hA] at hAl
   have HAL:=znq hAl
   have HS:=znq (show Su w pb wr [(bw3,sum.map B,59),(bw2,(zf 16).map B,59),(bw1,z.map B,59),(bb,V,343),(pb,wj A (a++b) R tl,363)] from hs)
   clear hpi hd hab hAl hn1 he hs hA hR
   obtain ⟨i1,hi1⟩:∃ i1,i1=i+1:=⟨_,rfl⟩
   have hni:(i:Int)+1=(i1:Int):=by omega
   have hi9:i1≤1000:=by omega
   have HI1:=znq (show i1=i+1∧True from ⟨hi1,trivial⟩)
   -- the names of what comes up
   obtain ⟨E,hE⟩:∃ E,E=pM k 2 i1 z:=⟨_,rfl⟩
   obtain ⟨Y,hY⟩:∃ Y,Y=yOf k z i (a,b):=⟨_,rfl⟩
   obtain ⟨U,hU⟩:∃ U,U=vOf k z i (a,b):=⟨_,rfl⟩
   obtain ⟨C,hC⟩:∃ C,C=qS k z i (a,b):=⟨_,rfl⟩
   obtain ⟨F,hF⟩:∃ F,F=vm k z i (a,b):=⟨_,rfl⟩
   have HEE:=znq (show pM k 2 i1 z=E∧True from ⟨hE.symm,trivial⟩)
   have HY1:=znq (show plusB [a,E]=Y∧True from ⟨by rw [hY,hE,hi1];rfl,trivial⟩)
   have HU1:=znq (show plusB [b,E]=U∧True from ⟨by rw [hU,hE,hi1];rfl,trivial⟩)
   have HC1:=znq (show plusB [Y,pM k 0 0 U]=C∧True from ⟨by rw [hC,hY,hU];rfl,trivial⟩)
   have HF1:=znq (show plusB [U,pM k 1 i1 C]=F∧True from ⟨by rw [hF,hC,hU,hi1];rfl,trivial⟩)
   have HEL:=znq (show E.length=16 by rw [hE];exact yo _ _ _ _)
   have HYL:=znq (show Y.length=16 by rw [hY];exact Xx _ _ _ _)
   have HUL:=znq (show U.length=16 by rw [hU];exact Xy _ _ _ _)
   have HCL:=znq (show C.length=16 by rw [hC];exact Z3 _ _ _ _)
   have HFL:=znq (show F.length=16 by rw [hF];exact Yq _ _ _ _)
   rw [← hY] at HE
   rw [← hF,← hC] at HN1
   clear hi1 hE hY hU hC hF
   have HEM:=znq (show (E.map B).length=16 by rw [yf];exact HEL.znr)
   have HYM:=znq (show (Y.map B).length=16 by rw [yf];exact HYL.znr)
   have HUM:=znq (show (U.map B).length=16 by rw [yf];exact HUL.znr)
   have HCM:=znq (show (C.map B).length=16 by rw [yf];exact HCL.znr)
   have HFM:=znq (show (F.map B).length=16 by rw [yf];exact HFL.znr)
   go_wp2_with (refine (HS.znr.get 2 rfl).mP rfl rfl rfl zc HZM.znr ?_)
   go_wp2_with fail
   refine (YZ kp q p 2 i1 k z _ (HK.znr.pR HS.znr.only n1 n2 n3) (by omega) hi9 HZ.znr).mono ?_
   rintro e w5 ⟨rfl,hbel⟩
   rw [HEE.znr.1]
   have HS:=znq (HS.znr.later hbel)
   have hz5:=hbel.size
   clear hbel
   go_wp2_with (refine ze 59 ((zf 16).map B) _ rfl rfl zj rfl ?_)
   intro w6 hb hbel;have HS:=znq (HS.znr.push hb hbel);have zfP:=hb.lt;clear hb hbel
   go_wp2_with (refine (HS.znr.get 0 rfl).mM rfl rfl rfl rfl zc (by rw [yf];exact zd 16) HEM.znr (zg _) ?_)
   intro w7 hb7 ho7
   have HS:=znq (show Su w pb w7 [(w5.heap.size,E.map B,59),(bw3,sum.map B,59),(bw2,(zf 16).map B,59),(bw1,z.map B,59),(bb,V,343),(pb,wj A (a++b) R tl,363)] from HS.znr.change 0 hb7 ho7 (.inl (by have:=HBB.znr;omega)) (by simp;omega))
   clear hb7 ho7
   generalize w5.heap.size=be at *
   have hr7:=(HS.znr.get 0 rfl).lt
   have hc0:=fun (z:zG w7.drew)=>((HS.znr.drew.later z.later).get 4 rfl).cell 0 (.slice (some ⟨pb,0,none⟩) np cp) (by rw [HVV.znr.1];rfl)
   go_wp2_with fail
   refine zcg [0,1,2,3,4,5,6,9,10,11,12,13,14,15] [7,8,16,17,18,19] [20,21] [(8,[7]),(17,[8,16])] (fun D x wx=>∃ v10 v11 v31 v32 v40 v41,x={ tmps:=#[.agg V.toArray,.pointer (some ⟨kp,0,none⟩),.agg (z.map B).toArray,.pointer (some ⟨bb,0,none⟩),undef,.pointer (some ⟨bw1,0,none⟩),.pointer (some ⟨bw2,0,none⟩),.pointer (some ⟨bw3,0,none⟩),.int .i64 i,.pointer (some ⟨be,0,none⟩),v10,v11,u12,.pointer (some ⟨bb,0,none⟩),.slice (some ⟨pb,0,none⟩) np cp,.int .i64 np,.int .i64 i,.bool true,.int .i64 i,.pointer (some ⟨kp,0,none⟩),.int .i64 i,.int .i64 i1,.agg (z.map B).toArray,.agg (E.map B).toArray,.pointer (some ⟨bb,0,none⟩),.slice (some ⟨pb,0,none⟩) np cp,.int .i64 i,.pointer (some ⟨pb,i*32,none⟩),.pointer (some ⟨pb,i*32,none⟩),.agg (a.map B).toArray,.agg (E.map B).toArray,v31,v32,.pointer (some ⟨bb,0,none⟩),.slice (some ⟨pb,0,none⟩) np cp,.int .i64 i,.pointer (some ⟨pb,i*32,none⟩),.pointer (some ⟨pb,i*32+16,none⟩),.agg (b.map B).toArray,.agg (E.map B).toArray,v40,v41,u42,u43,u44,u45,u46,u47,u48,u49,u50,u51,u52,u53,u54,u55,u56,u57,u58,u59,u60,u61,u62,u63,u64,u65,u66,undef],defers:=[] }∧Hid (Su w pb wx [(be,E.map B,59),(bw3,sum.map B,59),(bw2,(zf 16).map B,59),(bw1,z.map B,59),(bb,V,343),(pb,wj A (a++b) R tl,363)])∧w7.heap.size≤wx.heap.size∧Hid (BI D w7.heap.size wx v10 v11 v31 v32 v40 v41 a b E Y U)) (by kernel_rfl) (by kernel_rfl) ?_ ?_ ?_
   ·rintro w8 rfl
    have HS:=znq HS.znr.drew
    iterate 5 refine m10 ?_
    refine zL (Blk.nA (HS.znr.get 5 rfl) (i*32) 16 _ (by exact Wk HAL.znr HA.znr)) (HS.znr.get 5 rfl).lt zc HAM.znr rfl rfl rfl (fun K hK=>?_)
    go_simp;refine hK _ ?_;clear hK K
    refine zL (HS.znr.get 0 rfl).range (HS.znr.get 0 rfl).lt zc HEM.znr rfl rfl rfl (fun K hK=>?_)
    go_simp;refine hK _ ?_;clear hK K
    iterate 5 refine m10 ?_
    refine zL (Blk.nA (HS.znr.get 5 rfl) (i*32+16) 16 _ (by exact XG HAL.znr HA.znr HB.znr)) (HS.znr.get 5 rfl).lt zc HBM.znr rfl rfl rfl (fun K hK=>?_)
    go_simp;refine hK _ ?_;clear hK K
    refine zL (HS.znr.get 0 rfl).range (HS.znr.get 0 rfl).lt zc HEM.znr rfl rfl rfl (fun K hK=>?_)
    go_simp;refine hK _ ?_;clear hK K
    refine yK ⟨_,_,_,_,_,_,rfl,HS,xc _,BI.nought _ _ _ _ _ _⟩
   ·clear hc0
    rintro D x wx kk hkM hDk rf ⟨v10,v11,v31,v32,v40,v41,rfl,HS,hsz,HBI⟩
    simp only [uB,gB,or_false] at hkM
    rcases hkM with rfl | rfl | rfl | rfl | rfl | rfl
    ·refine yc rfl rfl (fun K hK=>?_)
     refine y8 299 59 16 2 _ [a.map B,E.map B] rfl rfl Tryz.underlying299 zF rfl (by omega) rfl (by omega) (by omega) (by simp [HA.znr,HEL.znr]) (fun w' hb hbel=>hK _ _ ?_)
     exact ⟨fun _=>hbel,v10,v11,.slice (some ⟨wx.heap.size,0,none⟩) 2 2,v32,v40,v41,rfl,HS.znr.later hbel,uj hsz hbel.size,(HBI.znr.later hbel).s7 ⟨by simp [HA.znr,HEL.znr],by have:=hb.lies;simpa using this⟩⟩
    ·obtain ⟨n,rfl,hr⟩:=HBI.znr.r7 (rf 7 (by simp [yE]))
     refine yc rfl rfl (fun K hK=>?_)
     go_simp
     refine (yN (some ⟨n,0,none⟩) 2 2 [a,E] _ rfl (by omega) hr).mono ?_
     rintro e w' ⟨rfl,hbel⟩
     rw [HY1.znr.1]
     go_simp
     refine hK _ _ ?_
     exact ⟨fun _=>hbel,v10,v11,_,.agg (Y.map B).toArray,v40,v41,rfl,HS.znr.later hbel,uj hsz hbel.size,(HBI.znr.later hbel).s8⟩
    ·refine yc rfl rfl (fun K hK=>?_)
     refine y8 299 59 16 2 _ [b.map B,E.map B] rfl rfl Tryz.underlying299 zF rfl (by omega) rfl (by omega) (by omega) (by simp [HB.znr,HEL.znr]) (fun w' hb hbel=>hK _ _ ?_)
     exact ⟨fun _=>hbel,v10,v11,v31,v32,.slice (some ⟨wx.heap.size,0,none⟩) 2 2,v41,rfl,HS.znr.later hbel,uj hsz hbel.size,(HBI.znr.later hbel).s16 ⟨by simp [HB.znr,HEL.znr],by have:=hb.lies;simpa using this⟩⟩
    ·obtain ⟨n,rfl,hr⟩:=HBI.znr.r16 (rf 16 (by simp [yE]))
     refine yc rfl rfl (fun K hK=>?_)
     go_simp
     refine (yN (some ⟨n,0,none⟩) 2 2 [b,E] _ rfl (by omega) hr).mono ?_
     rintro e w' ⟨rfl,hbel⟩
     rw [HU1.znr.1]
     go_simp
     refine hK _ _ ?_
     exact ⟨fun _=>hbel,v10,v11,v31,v32,_,.agg (U.map B).toArray,rfl,HS.znr.later hbel,uj hsz hbel.size,(HBI.znr.later hbel).s17⟩
    ·refine yc rfl rfl (fun K hK=>?_)
     refine Yv 59 ((zf 16).map B) _ rfl zj rfl (fun w' hb hbel=>hK _ _ ?_)
     exact ⟨fun _=>hbel,.pointer (some ⟨wx.heap.size,0,none⟩),v11,v31,v32,v40,v41,rfl,HS.znr.later hbel,uj hsz hbel.size,HBI.znr.s18 hsz hb hbel⟩
    ·refine yc rfl rfl (fun K hK=>?_)
     refine Yv 59 ((zf 16).map B) _ rfl zj rfl (fun w' hb hbel=>hK _ _ ?_)
     exact ⟨fun _=>hbel,v10,.pointer (some ⟨wx.heap.size,0,none⟩),v31,v32,v40,v41,rfl,HS.znr.later hbel,uj hsz hbel.size,HBI.znr.s19 hsz hb hbel⟩
   ·clear hc0
    rintro x wx ⟨v10,v11,v31,v32,v40,v41,rfl,HS,hsz,HBI⟩
    obtain ⟨n,rfl,hn1,hn2⟩:=HBI.znr.r18 rfl
    obtain ⟨m,rfl,hm1,hm2⟩:=HBI.znr.r19 rfl
    obtain rfl:=HBI.znr.r8 rfl
    obtain rfl:=HBI.znr.r17 rfl
    have hnm:n≠m:=fun e=>HBI.znr.ne rfl rfl (by rw [e])
    have HS:=znq ((HS.znr.add hn2).add hm2)
    clear HBI hn2 hm2
    refine zp rfl rfl (by rfl) (fun K hK=>?_)
    refine (HS.znr.get 1 rfl).mZ rfl rfl rfl zc (by simp [zd]) HYM.znr (zg _) (fun w9 hb ho=>hK _ _ ?_)
    clear hK K
    have HS:=znq (show Su w pb w9 ([(m,(zf 16).map B,59),(n,(zf 16).map B,59),(be,E.map B,59),(bw3,sum.map B,59),(bw2,(zf 16).map B,59),(bw1,z.map B,59),(bb,V,343),(pb,wj A (a++b) R tl,363)].set 1 (n,Y.map B,59)) from HS.znr.change 1 hb ho (.inl (by have:=HBB.znr;omega)) (by simp;omega))
    clear hb ho
    go_simp
    refine zp rfl rfl (by rfl) (fun K hK=>?_)
    refine (HS.znr.get 0 rfl).mZ rfl rfl rfl zc (by simp [zd]) HUM.znr (zg _) (fun w10 hb ho=>hK _ _ ?_)
    clear hK K
    have HS:=znq (show Su w pb w10 ([(m,(zf 16).map B,59),(n,Y.map B,59),(be,E.map B,59),(bw3,sum.map B,59),(bw2,(zf 16).map B,59),(bw1,z.map B,59),(bb,V,343),(pb,wj A (a++b) R tl,363)].set 0 (m,U.map B,59)) from HS.znr.change 0 hb ho (.inl (by have:=HBB.znr;omega)) (by simp;omega))
    clear hb ho
    go_simp
    refine zo ?_
    have hn9:=(HS.znr.get 1 rfl).lt
    have hm9:=(HS.znr.get 0 rfl).lt
    have HNE:=znq HS.znr.ne
    have hps:=HS.znr.size
    go_wp2_with fail
    refine yn [0,1,2] [3,4,5] [7] [zH.var 6 12 59 ((zf 16).map B)] (by kernel_rfl) (by kernel_rfl) ?_
    rintro w11 rfl
    have HS:=znq HS.znr.drew
    refine zL (HS.znr.get 1 rfl).range (HS.znr.get 1 rfl).lt zc HYM.znr rfl rfl rfl (fun K hK=>?_)
    go_simp;refine hK _ ?_;clear hK K
    refine m10 ?_
    refine zL (HS.znr.get 0 rfl).range (HS.znr.get 0 rfl).lt zc HUM.znr rfl rfl rfl (fun K hK=>?_)
    go_simp;refine hK _ ?_;clear hK K
    refine yK ⟨?_,?_,xc _⟩
    ·intro f hf
     simp only [df] at hf
     subst hf
     exact zhq _ _ _ _ _ _ rfl rfl rfl rfl (by simp) zj rfl
    refine zC rfl rfl (fun uz wa12 hla K hK=>?_)
    go_simp
    have HS:=znq (HS.znr.later hla)
    refine (YZ kp q p 0 0 k U _ (HK.znr.pR HS.znr.only n1 n2 n3) (by omega) (by omega) HUL.znr).mono ?_
    rintro e w12 ⟨rfl,hbel⟩
    have HS:=znq (HS.znr.later hbel)
    go_simp
    refine hK _ _ hbel ?_
    clear hK K hbel hla
    have HUEL:=znq (yo k 0 0 U)
    generalize pM k 0 0 U=eu at *
    refine zC rfl rfl (fun uz wa13 hla K hK=>?_)
    refine y8 299 59 16 2 _ [Y.map B,eu.map B] rfl rfl Tryz.underlying299 zF rfl (by omega) rfl (by omega) (by omega) (by simp [HYL.znr,HUEL.znr]) ?_
    intro w13 hb hbel
    have HS:=znq (HS.znr.later (hla.trans hbel))
    refine hK _ _ hbel ?_
    have HR:=znq (show yB 16 w13 (some ⟨wa13.heap.size,0,none⟩) [Y,eu] from ⟨by simp [HYL.znr,HUEL.znr],by have:=hb.lies;simpa using this⟩)
    clear hK K hbel hla hb
    go_simp
    refine zC rfl rfl (fun uz wa14 hla K hK=>?_)
    go_simp
    refine (yN (some ⟨wa13.heap.size,0,none⟩) 2 2 [Y,eu] _ rfl (by omega) (HR.znr.below hla)).mono ?_
    rintro e w14 ⟨rfl,hbel⟩
    have HS:=znq (HS.znr.later (hla.trans hbel))
    rw [HC1.znr.1]
    go_simp
    refine hK _ _ hbel ?_
    clear hK K hbel hla HR
    refine yZ (fun zkD wb14 hlb hbx14 hbn=>?_)
    go_simp
    have HS:=znq ((HS.znr.later hlb).add (show Blk wb14 zkD ((zf 16).map B) 59 from hbn))
    clear hlb hbn
    refine zp rfl rfl (by rfl) (fun K hK=>?_)
    refine (HS.znr.get 0 rfl).mZ rfl rfl rfl zc (by simp [zd]) (by rw [yf];exact HCL.znr) (zg _) (fun w14 hb ho=>hK _ _ ?_)
    clear hK K
    have HS:=znq (HS.znr.change 0 hb ho (.inl (by have:=HBB.znr;omega)) (fun e he=>by have:=HNE.znr e he;omega))
    clear hb ho HNE hps
    go_simp
    refine zo ?_
    have hx14:=(HS.znr.get 0 rfl).lt
    have hc0:=fun (z':zG w14.drew)=>((HS.znr.drew.later z'.later).get 7 rfl).cell 0 (.slice (some ⟨pb,0,none⟩) np cp) (by rw [HVV.znr.1];rfl)
    go_wp2_with fail
    refine zn [0,1,2,3,4,5,6,7,11,8,9,10,12,13,14] (by kernel_rfl) (by kernel_rfl) ?_
    rintro w15 rfl
    have HS:=znq HS.znr.drew
    iterate 3 refine m1R ?_
    refine zt (HS.znr.get 1 rfl).range (HS.znr.get 1 rfl).lt zc HUM.znr rfl rfl rfl rfl (fun K hK=>?_)
    go_simp;refine hK _ ?_;clear hK K
    iterate 3 refine m1R ?_
    refine zt (HS.znr.get 0 rfl).range (HS.znr.get 0 rfl).lt zc HCM.znr rfl rfl rfl rfl (fun K hK=>?_)
    go_simp;refine hK _ ?_;clear hK K
    refine zt (HS.znr.get 0 rfl).range (HS.znr.get 0 rfl).lt zc HCM.znr rfl rfl rfl rfl (fun K hK=>?_)
    go_simp;refine hK _ ?_;clear hK K
    clear hc0
    refine zi rfl rfl (by rfl) (fun K hK=>?_)
    go_simp
    refine (YZ kp q p 1 i1 k C _ (HK.znr.pR HS.znr.only n1 n2 n3) (by omega) hi9 HCL.znr).mono ?_
    rintro e w16 ⟨rfl,hbel⟩
    have HS:=znq (HS.znr.later hbel)
    go_simp
    refine hK _ _ hbel ?_
    clear hK K hbel
    have HCEL:=znq (yo k 1 i1 C)
    generalize pM k 1 i1 C=ec at *
    refine zi rfl rfl (by rfl) (fun K hK=>?_)
    refine y8 299 59 16 2 _ [U.map B,ec.map B] rfl rfl Tryz.underlying299 zF rfl (by omega) rfl (by omega) (by omega) (by simp [HUL.znr,HCEL.znr]) ?_
    intro w17 hb hbel
    have HS:=znq (HS.znr.later hbel)
    have HR:=znq (show yB 16 w17 (some ⟨w16.heap.size,0,none⟩) [U,ec] from ⟨by simp [HUL.znr,HCEL.znr],by have:=hb.lies;simpa using this⟩)
    refine hK _ _ hbel ?_
    clear hK K hbel hb
    go_simp
    refine zi rfl rfl (by rfl) (fun K hK=>?_)
    go_simp
    refine (yN (some ⟨w16.heap.size,0,none⟩) 2 2 [U,ec] _ rfl (by omega) HR.znr).mono ?_
    rintro e w18 ⟨rfl,hbel⟩
    have HS:=znq (HS.znr.later hbel)
    rw [HF1.znr.1]
    go_simp
    refine hK _ _ hbel ?_
    clear hK K hbel HR
    have hbp:=XD F C HFL.znr HCL.znr
    refine kQ rfl rfl (by rfl) 363 _ [(0,.agg (F.map B).toArray),(1,.agg (C.map B).toArray)] _ rfl rfl hbp (fun K hK=>?_)
    go_simp
    refine hK _ ?_
    clear hK K hbp
    refine mqR ?_
    refine zp rfl rfl (by rfl) (fun K hK=>?_)
    refine (HS.znr.get 8 rfl).pG (o:=i*32) (cs:=F.map B++C.map B) rfl rfl rfl vt (by simp [HFL.znr,HCL.znr]) (by have:=zcf (A:=A) (R:=R) (tl:=tl) (M:=a++b) (by simp [HA.znr,HB.znr]);rw [HAL.znr] at this;exact this) (by intro u hu;rcases gP.1 hu with hu | hu <;> exact zg _ _ hu) (fun w19 ziK ho19=>hK _ _ ?_)
    clear hK K
    have ziK:Blk w19 pb (wj A (F++C) R tl) 363:=by
     rw [← zce (A:=A) (M:=a++b) (C:=F++C) (R:=R) (tl:=tl) HAL.znr (by simp [HA.znr,HB.znr,HFL.znr,HCL.znr])]
     simpa [QA] using ziK
    have HS:=znq (show Su w pb w19 [(zkD,C.map B,59),(m,U.map B,59),(n,Y.map B,59),(be,E.map B,59),(bw3,sum.map B,59),(bw2,(zf 16).map B,59),(bw1,z.map B,59),(bb,V,343),(pb,wj A (F++C) R tl,363)] from HS.znr.change 8 ziK ho19 (.inr rfl) (by simp;omega))
    clear ziK ho19
    go_simp
    refine zo ?_
    have HSL:=znq (mO [sum,Y])
    go_wp2_with (first | (refine (HS.znr.get 4 rfl).mP rfl rfl rfl zc HXM.znr ?_) | (refine (HS.znr.get 2 rfl).mP rfl rfl rfl zc HYM.znr ?_) | (refine qQ 299 59 16 2 _ [sum.map B,Y.map B] rfl rfl rfl Tryz.underlying299 zF rfl (by omega) rfl (by omega) (by omega) (by simp [HX.znr,HYL.znr]) ?_))
    intro w20 hb hbel
    have HS:=znq (HS.znr.later hbel)
    have HR:=znq (show yB 16 w20 (some ⟨w19.heap.size,0,none⟩) [sum,Y] from ⟨by simp [HX.znr,HYL.znr],by have:=hb.lies;simpa using this⟩)
    clear hb hbel
    go_wp2_with fail
    refine (yN (some ⟨w19.heap.size,0,none⟩) 2 2 [sum,Y] _ rfl (by omega) HR.znr).mono ?_
    rintro e w21 ⟨rfl,hbel⟩
    have HS:=znq (HS.znr.later hbel)
    generalize plusB [sum,Y]=s2 at *
    clear hbel HR
    go_wp2_with (refine (HS.znr.get 4 rfl).mM rfl rfl rfl rfl zc HXM.znr (by rw [yf];exact HSL.znr) (zg _) ?_)
    intro w22 hb22 ho22
    have HS:=znq (show Su w pb w22 [(zkD,C.map B,59),(m,U.map B,59),(n,Y.map B,59),(be,E.map B,59),(bw3,s2.map B,59),(bw2,(zf 16).map B,59),(bw1,z.map B,59),(bb,V,343),(pb,wj A (F++C) R tl,363)] from HS.znr.change 4 hb22 ho22 (.inl (by have:=HBB.znr;omega)) (by simp;omega))
    have HS:=znq (show Su w pb w22 [(bw3,s2.map B,59),(bw2,(zf 16).map B,59),(bw1,z.map B,59),(bb,V,343),(pb,(zV (z6 k z 0 (ps.take (i+1))++ps.drop (i+1))).map B++tl,363)] from by rw [HN1.znr.1];exact HS.znr.zdV.zdV)
    clear hb22 ho22
    go_wp2
    go_roundw
    case rel=>exact ⟨i+1,s2,by omega,by rw [← HI1.znr.1],HSL,HE,HS⟩
    case measure=>have:=HI1.znr.1;simp [intOf];omega
  ·obtain rfl:i=np:=by omega
   have HE:=znq (show sum=S∧True from ⟨by have:=HE.znr.1;rwa [Yx (by rw [HNP.znr];exact xc _)] at this,trivial⟩)
   have HS:=znq (show Su w pb wr [(bw3,sum.map B,59),(bw2,(zf 16).map B,59),(bw1,z.map B,59),(bb,V,343),(pb,(zV (z6 k z 0 ps)).map B++tl,363)] from by
    have:=HS.znr
    rwa [Yx (by rw [HNP.znr];exact xc _),Y2 (by rw [HNP.znr];exact xc _),bC] at this)
   go_wp2_with (first | (refine (HS.znr.get 0 rfl).mP rfl rfl rfl zc HXM.znr ?_) | (refine (HS.znr.get 1 rfl).mM rfl rfl rfl rfl zc (by rw [yf];exact zd 16) HXM.znr (zg _) ?_))
   intro w6 hb6 ho6
   have HS:=znq (HS.znr.change 1 hb6 ho6 (.inl (by have:=HBB.znr;omega)) (by simp;omega))
   have HP:=znq (HS.znr.get 4 rfl)
   go_wp2
   refine hb6.result rfl rfl rfl zc HXM.znr ⟨by rw [HE.znr.1],HP.znr,HS.znr.only⟩
end Go.Proofs.YtamdifhibogdiaaGreatDoor
namespace Go
open RowKit
def Region.after:List Nat→Array Bool→Array Bool
 | [],l=>l
 | i::r,l=>Region.after r (l.setIfInBounds i true)
def Region.zaB (brk:List Nat) (md:Region.Mode) (ops:Array Oper):List Nat→Array Bool→Bool
 | [],_=>true
 | i::r,listed =>
  (match ops[i]? with
   | none=>false
   | some _=>(Region.ready md ops listed).contains i && Region.zbD brk md ops listed i) &&
  Region.zaB brk md ops r (listed.setIfInBounds i true)
section
variable {P:Program} {ops:Array Oper} {Q:Exit→Act→World→Prop} {md:Region.Mode} {R:World→World→Prop} {brk:List Nat} {C:Act→World→Prop}
def qM (R:World→World→Prop) (P:Program) (ops:Array Oper) (C:Act→World→Prop):List Nat→Act→World→Prop
 | [],a,w=>C a w
 | i::r,a,w =>
  match ops[i]? with
  | none=>False
  | some o =>
   if Region.wanted o (yielded ops a.tmps)=true then ∃ v,(∀ w',R w w'→(execOp a.eval o).run P w'=.ok (.value v) w')∧qM R P ops C r (a.put o.dst v) w
   else qM R P ops C r (a.put o.dst undef) w
theorem wT (fuel:Nat) (hrf:∀ a,R a a) (ht:∀ a b c,R a b→R b c→R a c) (hs:Region.noSelect ops=true) (hQ:∀ c a w,¬ Q (.panic c) a w):∀ (order:List Nat) (listed:Array Bool) (a:Act) (w:World),
  Region.zaB brk md ops order listed=true→qM R P ops (qj R brk P md ops Q fuel (Region.after order listed)) order a w→qj R brk P md ops Q (order.length+fuel) listed a w
 | [],listed,a,w,_,h=>by
  simp only [List.length_nil,Nat.zero_add]
  exact h
 | i::r,listed,a,w,hB,h=>by
  simp only [Region.zaB,Bool.and_eq_true] at hB
  obtain ⟨hB1,hB2⟩:=hB
  have hfu:(i::r).length+fuel=(r.length+fuel)+1:=by simp only [uh];omega
  rw [hfu]
  cases ho:ops[i]? with
  | none=>simp [ho] at hB1
  | some o =>
   simp only [ho,Bool.and_eq_true] at hB1
   simp only [qM,ho,Region.after] at h
   by_cases hw:Region.wanted o (yielded ops a.tmps)=true
   ·rw [if_pos hw] at h
    obtain ⟨v,hv,hr⟩:=h
    obtain ⟨D,hDi,hD,hDu,hDf⟩:=Region.pV ho hB1.2
    exact qW hrf ht ho (Region.noSelect_spec hs) (fun c a w hq=>absurd hq (hQ _ _ _)) D hDi hD (r.length+fuel) listed a w hDu hDf (by simpa using hB1.1) (.inl ⟨hw,hv⟩)
     (wT fuel hrf ht hs hQ r _ _ _ hB2 hr)
   ·rw [if_neg hw] at h
    obtain ⟨D,hDi,hD,hDu,hDf⟩:=Region.pV ho hB1.2
    exact qW hrf ht ho (Region.noSelect_spec hs) (fun c a w hq=>absurd hq (hQ _ _ _)) D hDi hD (r.length+fuel) listed a w hDu hDf (by simpa using hB1.1) (.inr ⟨by simpa using hw,rfl⟩)
     (wT fuel hrf ht hs hQ r _ _ _ hB2 h)
theorem Kk {id:Nat} {l:List Oper} {a:Act} {w:World} (R:World→World→Prop) (brk:List Nat) (order:List Nat) (fuel:Nat) (hrf:∀ a,R a a) (ht:∀ a b c,R a b→R b c→R a c) (hm:P.follows .mixedOrders=true)
  (hB:(Region.noSelect l.toArray && (order.length+fuel==l.length) && Region.zaB brk .any l.toArray order (uS l.length false))=true)
  (h:∀ w',w'=w.drew→qM R P l.toArray (qj R brk P .any l.toArray (NoPanic Q) fuel (Region.after order (uS l.length false))) order a w'):(Code.region id l.toArray true).wp P Q a w:=by
 simp only [Bool.and_eq_true,beq_iff_eq] at hB
 obtain ⟨⟨hs,hl⟩,hB⟩:=hB
 refine wp_region_noPanic (wp_region_any hm (ZD (R:=R) (brk:=brk) _ _ _ _ ?_))
 have:=wT (R:=R) (brk:=brk) (P:=P) (Q:=NoPanic Q) fuel hrf ht hs (fun c a w hq=>hq) order _ a w.drew hB (h _ rfl)
 rw [hl] at this
 exact this
theorem zex {fuel i j:Nat} {oi oj:Oper} {listed:Array Bool} {a:Act} {w:World} (hr:Region.ready md ops listed=[i,j]) (hoi:ops[i]? = some oi) (hoj:ops[j]? = some oj)
  (hwi:Region.wanted oi (yielded ops a.tmps)=true) (hwj:Region.wanted oj (yielded ops a.tmps)=true)
  (h1:∀ K:Act→World→Prop,(∀ a' w',(brk.contains i=false→R w w')→qj R brk P md ops Q fuel (listed.setIfInBounds i true) a' w'→K a' w')→oi.wp P a w K Q)
  (h2:∀ K:Act→World→Prop,(∀ a' w',(brk.contains j=false→R w w')→qj R brk P md ops Q fuel (listed.setIfInBounds j true) a' w'→K a' w')→oj.wp P a w K Q) :
  qj R brk P md ops Q (fuel+1) listed a w:=by
 refine ⟨fun h=>(by rw [hr] at h;cases h),fun k hk=>?_⟩
 rw [hr] at hk
 simp only [uB,gB,or_false] at hk
 rcases hk with rfl | rfl
 ·unfold wpOp
  simp only [hoi]
  rw [if_pos hwi]
  exact .inl (h1 _ fun _ _ ha hb=>⟨ha,hb⟩)
 ·unfold wpOp
  simp only [hoj]
  rw [if_pos hwj]
  exact .inl (h2 _ fun _ _ ha hb=>⟨ha,hb⟩)
theorem vG {a:Act} {w:World} (h:C a w):qM R P ops C [] a w:=h
theorem qH {i:Nat} {r:List Nat} {o:Oper} {tl:List Oper} {a:Act} {w:World} (hd:ops.toList.drop i=o::tl) (hk:o.nR=0)
  (hh:∀ K:Act→Prop,(∀ a',qM R P ops C r a' w→K a')→wpQuiet P ops (KJ R w) K [o] a):qM R P ops C (i::r) a w:=by
 have h:=hh (fun a'=>qM R P ops C r a' w) (fun _ h=>h)
 have ho:ops[i]? = some o:=by
  have:=congrArg (·[0]?) hd
  simpa using this
 simp only [wpQuiet] at h
 simp only [qM,ho]
 by_cases hw:Region.wanted o (yielded ops a.tmps)=true
 ·rw [if_pos hw] at h ⊢
  obtain ⟨v,hv,hn⟩:=h
  exact ⟨v,fun w' hw'=>xv hk (hv w' ⟨⟨w',hw'⟩,rfl⟩),hn⟩
 ·rw [if_neg hw] at h ⊢
  exact h
end
end Go
