/-
  Texts of this claim, one behind the other.
-/
import Derived.Test.YtamdifhibogdiaaGreatDoorX1
import Derived.Test.YtamdifhibogdiaaGreatDoorX10
import Derived.Lib.AppendZerosOnto
import Derived.Lib.Hide
set_option linter.unusedVariables false
set_option linter.unusedSimpArgs false
set_option maxHeartbeats 16000000
set_option maxRecDepth 100000
open List renaming drop_zero→bL,getElem?_map→uV,length_append→q8,length_map→yf,length_set→Vo,map_append→uI,take_add_one→fA,take_of_length_le→Y2
open Nat renaming le_of_lt→dB,le_refl→xc,min_self→mq,mul_one→dN,sub_add_cancel→lL
namespace Go.Mem
open RowKit Cells
theorem zmf {w:World} {base:Nat} {e:TypeId} {v:Value} {n:Nat} {xs:List Value} (h:w.ownsRow base e 1 v n xs) (hn:0 < n) :
  ∃ g cap cur,v=.slice (some ⟨g,0,none⟩) n cap∧base≤g∧Blk w g cur e∧n≤cap∧cap≤maxLen∧cur.length=cap∧cur.take n=xs:=by
 rcases h.2 with ⟨_,h0⟩ | ⟨g,cap,cur,hv,hb,hg,h1,h2,h3,ht⟩
 ·omega
 ·refine ⟨g,cap,cur.toList,hv,hb,by unfold Blk;simpa using hg,h1,h2,by simpa using h3,by simpa using ht⟩
theorem Jz {w:World} {base:Nat} {e:TypeId} {g n cap:Nat} {cur:List Value} (h:Blk w g cur e) (hb:base≤g) (hn:n≤cap) (hm:cap≤maxLen) (hl:cur.length=cap):w.ownsRow base e 1 (.slice (some ⟨g,0,none⟩) n cap) n (cur.take n):=by
 refine ⟨by rw [List.length_take,hl,dN];omega,.inr ⟨g,cap,cur.toArray,rfl,hb,h,hn,hm,by simp [hl],?_⟩⟩
 rw [dN]
theorem yi {w:World} {b base:Nat} {e:TypeId} {size:Nat} {v:Value} {n:Nat} {xs:List Value} (h:w.ownsRow base e size v n xs) (hb:b≤base):w.ownsRow b e size v n xs :=
 ⟨h.1,h.2.imp id fun ⟨g,cap,cur,hv,hg,hh,rest⟩=>⟨g,cap,cur,hv,Nat.le_trans hb hg,hh,rest⟩⟩
theorem zu {w w':World} {base:Nat} {e:TypeId} {size:Nat} {v:Value} {n c:Nat} {xs vs:List Value} {ty:TypeId} (h:w.ownsRow base e size v n xs) (hc:Blk w c vs ty) (hne:e≠ty) (ho:Only c w w'):w'.ownsRow base e size v n xs:=by
 refine ⟨h.1,h.2.imp id ?_⟩
 rintro ⟨g,cap,cur,hv,hg,hh,rest⟩
 refine ⟨g,cap,cur,hv,hg,(ho.block g (fun e'=>?_)).trans hh,rest⟩
 subst e'
 rw [show w.heap[g]? = _ from hc] at hh
 cases hh
 exact hne rfl
end Go.Mem
namespace Go.Proofs.YtamdifhibogdiaaGreatDoor
open RowKit Mem Ops Cells Oct Gf Trn Aes Ring Ezk Ezh Ezt ru Fl
attribute [local irreducible] zE zN zO zM yu
theorem kR:Row Tryz.prog 338 2:=⟨by kernel_rfl,by kernel_rfl⟩
theorem jb:(Tryz.prog.info? 338).map (·.zero)=some (some (.agg #[.slice none 0 0,.slice none 0 0])):=by kernel_rfl
theorem ZL (ao:Option Addr) (n cap:Nat) (m:List UInt8) (w:World) (hn:m.length=n) (h31:n≤31) (hl:zr w ao (m.map B)) :
  Calls Tryz.prog 235 #[.slice ao n cap] w fun e w'=>∃ v1 v2,e=.returned (.agg #[v1,v2])∧w'.ownsRow w.heap.size 5 1 v1 n ((xE m).map B)∧w'.ownsRow w.heap.size 5 1 v2 n ((yV m).map B)∧Below w.heap.size w w':=by
 have HN:=znq hn
 have HL:=znq hl
 have HC1:=znq (show wC 0 (fl n) (2*n)=some (0,n) from by have:=jR 0 n (2*n) (by omega) (by omega);rwa [Qc] at this)
 have HC2:=znq (jR n n (2*n) (by omega) (by omega))
 have HE1:=znq (show ((jm m).drop 0).take n=xE m∧True from ⟨by unfold xE;rw [bL,hn],trivial⟩)
 have HE2:=znq (show ((jm m).drop n).take n=yV m∧True from ⟨by unfold yV;rw [hn],trivial⟩)
 clear hn hl
 go_enter Tryz.func235,Tryz.ntmps235
 go_wp2_with (refine ze 338 [.slice none 0 0,.slice none 0 0] _ rfl rfl jb rfl ?_)
 intro w1 hb1 nC
 have HB:=znq hb1
 have HB0:=znq hb1
 have nT:=znq nC
 clear hb1 nC
 go_wp2_with fail
 refine (QQ ao n cap m 0 (fl n) 0 n _ HN.znr (by omega) (HL.znr.below nT.znr) HC1.znr).mono ?_
 rintro e w2 ⟨v2,rfl,hown2,mV⟩
 rw [HE1.znr.1] at hown2
 have HB:=znq (HB.znr.below mV HB.znr.lt)
 have nT:=znq (nT.znr.trans (mV.mono nT.znr.size))
 have HO1:=znq hown2
 have HB2s:=znq nT.znr
 clear hown2 mV
 go_wp2_with fail
 refine (QQ ao n cap m (fl n) (fl n) n n _ HN.znr (by omega) (HL.znr.below nT.znr) HC2.znr).mono ?_
 rintro e w3 ⟨v3,rfl,hown3,mY⟩
 rw [HE2.znr.1] at hown3
 have HB:=znq (HB.znr.below mY HB.znr.lt)
 have nT:=znq (nT.znr.trans (mY.mono nT.znr.size))
 have HO1:=znq (zm HO1.znr mY)
 have HO2:=znq hown3
 clear hown3 mY
 obtain ⟨a2,c2,rfl,_,_,_⟩:=zw HO1.znr
 obtain ⟨a3,c3,rfl,_,_,_⟩:=zw HO2.znr
 have hs1:w.heap.size≤w1.heap.size:=dB HB0.znr.lt
 have hs2:w.heap.size≤w2.heap.size:=HB2s.znr.size
 have HT:=znq (show (5:TypeId)≠338 by decide)
 simp only []
 go_wp2_with (refine HB.znr.mM rfl rfl rfl (cs:=[.slice a2 n c2,.slice a3 n c3]) rfl kR rfl rfl (by intro v hv;simp at hv;rcases hv with rfl | rfl <;> rfl) ?_)
 intro w4 hb4 ho4
 have nD:=zk nT.znr ho4 (xc _)
 have ho1:=zu HO1.znr HB.znr HT.znr ho4
 have ho2:=zu HO2.znr HB.znr HT.znr ho4
 go_wp2
 exact hb4.result rfl rfl rfl kR rfl ⟨_,_,rfl,yi ho1 hs1,yi ho2 hs2,nD⟩
theorem Xd (l:List (List UInt8)):(plusB l).length=16:=k8 l _ (zd 16)
theorem JA (kp q p:Nat) (k:zv) (h:List UInt8) (ao:Option Addr) (n cap:Nat) (m:List UInt8) (w:World) (hk:xH w kp q p k) (hh:h.length=16) (hn:m.length=n) (h1:1≤n) (h31:n≤31) (hl:zr w ao (m.map B)) :
  Calls Tryz.prog 234 #[.pointer (some ⟨kp,0,none⟩),.agg (h.map B).toArray,.slice ao n cap] w fun e w'=>∃ v,e=.returned v∧w'.ownsRow w.heap.size 5 1 v n ((xx k h m).map B)∧Below w.heap.size w w':=by
 have HK:=znq hk
 have HH:=znq hh
 have HHM:=znq (show (h.map B).length=16 by rw [yf];exact hh)
 have HN:=znq hn
 have HL:=znq hl
 have HS:=znq (St.start w)
 have f0:((n:Int)==0)=false:=by simp;omega
 clear hk hh hn hl
 by_cases h16:16≤n
 ·have HF:=znq (show xx k h m=m∧True from ⟨by unfold xx;rw [if_pos (.inr (by rw [HN.znr];exact h16))],trivial⟩)
  rw [HF.znr.1]
  go_enter Tryz.func234,Tryz.ntmps234
  go_wp2_with (refine zh 59 _ (h.map B) _ rfl rfl rfl rfl ?_)
  intro w1 hb hbel;have HS:=znq (HS.znr.push hb hbel);have hlt1:=hb.lt;clear hb hbel
  go_wp2_with fail
  refine (YR ao n cap (m.map B) _ (by rw [yf];exact HN.znr) (by omega) (HL.znr.below HS.znr.bel) (j9 m)).mono ?_
  rintro e w2 ⟨v2,rfl,hown2,mV⟩
  have hbel:=HS.znr.bel.trans (mV.mono HS.znr.bel.size)
  have HOWN:=znq (yi hown2 (dB hlt1))
  have nT:=znq hbel
  clear hown2 mV hbel
  simp only [id]
  go_wp2
  go_ret
  exact ⟨_,rfl,HOWN.znr,nT.znr⟩
 ·have h16':n < 16:=by omega
  have f1:decide ((n:Int)≥16)=false:=by simp;omega
  obtain ⟨tp,htp⟩:∃ tp,tp=QN m:=⟨_,rfl⟩
  obtain ⟨bm,hbm⟩:∃ bm,bm=block m:=⟨_,rfl⟩
  obtain ⟨x,hx⟩:∃ x,x=pM k 0 3 (plusB [tp,h]):=⟨_,rfl⟩
  have HTP:=znq (show bm.set 0 (or8 (at8 bm 0) 128)=tp∧True from ⟨by rw [htp,hbm];rfl,trivial⟩)
  have HBM:=znq (show block m=bm∧True from ⟨hbm.symm,trivial⟩)
  have HX:=znq (show pM k 0 3 (plusB [tp,h])=x∧True from ⟨hx.symm,trivial⟩)
  have HF:=znq (show xx k h m=m.set 0 (ya (at8 m 0) (rE (at8 x 0) 128))∧True from ⟨by rw [V6 (by rw [HN.znr];omega),hx,htp];rfl,trivial⟩)
  have HBL:=znq (show bm.length=16 by rw [hbm];exact zA m)
  have zfV:=znq (show (bm.map B).length=16 by rw [yf,hbm];exact zA m)
  have HTL:=znq (show tp.length=16 by rw [htp];unfold QN;rw [Vo];exact zA m)
  have ziB:=znq (show (tp.map B).length=16 by rw [yf];exact HTL.znr)
  have HXL:=znq (show x.length=16 by rw [hx];exact yo _ _ _ _)
  have zjY:=znq (show (x.map B).length=16 by rw [yf];exact HXL.znr)
  rw [HF.znr.1]
  clear htp hbm hx HF
  go_enter Tryz.func234,Tryz.ntmps234
  go_wp2_with (refine zh 59 _ (h.map B) _ rfl rfl rfl rfl ?_)
  intro w1 hb hbel;have HS:=znq (HS.znr.push hb hbel);have hlt1:=hb.lt;clear hb hbel
  have hwb:=HS.znr.bel.size
  go_wp2_with fail
  refine (YR ao n cap (m.map B) _ (by rw [yf];exact HN.znr) (by omega) (HL.znr.below HS.znr.bel) (j9 m)).mono ?_
  rintro e w2 ⟨v2,rfl,hown2,mV⟩
  obtain ⟨g,c2,cur,rfl,hg2,hb2,hnc2,hcm2,hcl2,hct2⟩:=zmf hown2 (by omega)
  have HS:=znq ((HS.znr.later mV).add hb2)
  have hg1:w.heap.size < g:=by omega
  have hg3:=hb2.lt
  have ziI:=znq (And.intro hcl2 hct2)
  clear hown2 mV hb2 hcl2 hct2
  simp only [id]
  go_wp2_with fail
  refine (yQ ao n cap m _ HN.znr (HL.znr.below HS.znr.bel)).mono ?_
  rintro e w3 ⟨rfl,mY⟩
  rw [HBM.znr.1]
  have HS:=znq (HS.znr.later mY)
  have zaV:=mY.size
  clear mY
  go_wp2_with (refine ze 59 ((zf 16).map B) _ rfl rfl zj rfl ?_)
  intro w4 hb hbel;have HS:=znq (HS.znr.push hb hbel);have zaE:=hb.lt;clear hb hbel
  generalize hbb:w.heap.size=bb at *
  generalize w1.heap.size=b1 at *
  generalize w2.heap.size=b2 at *
  generalize w3.heap.size=b3 at *
  have HBB:=znq hbb
  clear hbb
  go_wp2_with (refine (HS.znr.get 0 rfl).mM rfl rfl rfl (cs:=bm.map B) rfl zc (by simp [zd]) zfV.znr (zg _) ?_)
  intro w5 hb5 ho5
  have HS:=znq (HS.znr.change 0 hb5 ho5 (by omega) (by simp;omega))
  clear hb5 ho5
  have hc0:=(HS.znr.get 0 rfl).cell 0 _ (zU (q4 (b:=bm) (i:=0) (by rw [HBL.znr];omega)))
  go_wp2_with (refine (HS.znr.get 0 rfl).ry (v:=B (or8 (at8 bm 0) 128)) (i:=0) rfl rfl rfl rfl zl rfl rfl (by rw [zfV.znr];omega) ?_)
  intro w6 hb6 ho6
  rw [ym,HTP.znr.1] at hb6
  have HS:=znq (HS.znr.change 0 hb6 ho6 (by omega) (by simp;omega))
  clear hb6 ho6 hc0
  go_wp2_with (first | (refine (HS.znr.get 0 rfl).mP rfl rfl rfl zc ziB.znr ?_) | (refine (HS.znr.get 2 rfl).mP rfl rfl rfl zc HHM.znr ?_) | (refine qQ 299 59 16 2 _ [tp.map B,h.map B] rfl rfl rfl Tryz.underlying299 zF rfl (by omega) rfl (by omega) (by omega) (by simp [HTL.znr,HH.znr]) ?_))
  intro w7 hb7 ny
  have HR:=znq (show yB 16 w7 (some ⟨w6.heap.size,0,none⟩) [tp,h] from ⟨by simp [HTL.znr,HH.znr],by have:=hb7.lies;simpa using this⟩)
  have HS:=znq (HS.znr.later ny)
  clear hb7 ny
  go_wp2_with fail
  refine (zb4 (some ⟨w6.heap.size,0,none⟩) 2 2 [tp,h] _ rfl (by omega) HR.znr).mono ?_
  rintro e w8 ⟨rfl,nG⟩
  have HS:=znq (HS.znr.later nG)
  clear nG HR
  go_wp2_with fail
  refine (YZ kp q p 0 3 k (plusB [tp,h]) _ (HK.znr.later (HS.znr.old HBB.znr)) (by omega) (by omega) (Xd _)).mono ?_
  rintro e w9 ⟨rfl,nM⟩
  rw [HX.znr.1]
  have HS:=znq (HS.znr.later nM)
  clear nM
  go_wp2_with (refine ze 59 ((zf 16).map B) _ rfl rfl zj rfl ?_)
  intro w10 hb hbel;have hz3:=(HS.znr.get 0 rfl).lt;have hz2:=(HS.znr.get 1 rfl).lt;have HS:=znq (HS.znr.push hb hbel);have zfW:=hb.lt;clear hb hbel
  generalize w9.heap.size=b9 at *
  go_wp2_with (refine (HS.znr.get 0 rfl).mM rfl rfl rfl (cs:=x.map B) rfl zc (by simp [zd]) zjY.znr (zg _) ?_)
  intro w11 zbO tV
  have HS:=znq (HS.znr.change 0 zbO tV (by omega) (by simp;omega))
  clear zbO tV
  have hcc:cur[0]? = some (B (at8 m 0)):=by
   have h0:(cur.take n)[0]? = some (B (at8 m 0)):=by rw [ziI.znr.2];exact zU (q4 (by rw [HN.znr];omega))
   rw [List.getElem?_take] at h0
   simpa [show 0 < n by omega] using h0
  have hc1:=fun (y:zG w11.drew)=>((HS.znr.drew.later y.later).get 2 rfl).cell 0 _ hcc
  have hc2:=fun (y:zG w11.drew)=>((HS.znr.drew.later y.later).get 0 rfl).cell 0 _ (zU (q4 (b:=x) (i:=0) (by rw [HXL.znr];omega)))
  have hcl0:0 < cur.length:=by rw [ziI.znr.1];omega
  clear hcc
  go_wp2_with fail
  refine zn [0,1,2,3,4,5,6,7,8] (by kernel_rfl) (by kernel_rfl) ?_
  rintro w12 rfl
  refine mqR ?_
  clear hc1 hc2
  refine zp rfl rfl (by rfl) (fun K hK=>?_)
  refine (HS.znr.drew.get 2 rfl).nO (v:=B (ya (at8 m 0) (rE (at8 x 0) 128))) rfl rfl rfl zl rfl rfl hcl0 (fun w13 zbA zaS=>hK _ _ ?_)
  clear hK K
  have sU:=zk HS.znr.drew.bel zaS (by omega)
  have zbV:=Jz (n:=n) zbA (dB hg1) hnc2 hcm2 (by rw [Vo];exact ziI.znr.1)
  rw [List.take_set,ziI.znr.2,ym] at zbV
  have HOWN:=znq zbV
  have HBE:=znq sU
  clear zbA zaS sU zbV
  go_simp
  refine zo ?_
  go_wp2
  go_ret
  exact ⟨_,rfl,by rw [HBB.znr];exact HOWN.znr,by rw [HBB.znr];exact HBE.znr⟩
end Go.Proofs.YtamdifhibogdiaaGreatDoor
namespace Go.Cells
open RowKit
theorem St.low {w0 w w':World} {base B:Nat} {L:List (Nat×List Value×TypeId)} (h:St w0 base w L) (hb:Below B w w') (hbase:base≤B) (hall:∀ e∈L,e.1 < B):St w0 base w' L:=⟨h.nW,h.bel.trans (hb.mono hbase),fun e he=>(h.all e he).below hb (hall e he)⟩
end Go.Cells
namespace Go.Proofs.YtamdifhibogdiaaGreatDoor
open RowKit Mem Ops Cells Oct Gf Trn Aes Ring Ezk Ezh Ezt ru Fl
attribute [local irreducible] zE zN zO zM yu
theorem zca (kp q p:Nat) (k:zv) (h:List UInt8) (i j:Nat) (ao:Option Addr) (n cap:Nat) (half:List UInt8) (w:World) (hk:xH w kp q p k) (hh:h.length=16) (hi:i≤1000) (hj:j≤1000) (hn:half.length=n) (h31:n≤31) (hl:zr w ao (half.map B)) :
  Calls Tryz.prog 236 #[.pointer (some ⟨kp,0,none⟩),.agg (h.map B).toArray,.int .i64 i,.int .i64 j,.slice ao n cap] w fun e w'=>∃ v,e=.returned v∧w'.ownsRow w.heap.size 5 1 v n ((Ezt.stepT k h i j half).map B)∧Below w.heap.size w w':=by
 obtain ⟨i0,hi0,hz0,hz1,hz2⟩:=info_parts qR
 have HI:=znq (And.intro hi0 (And.intro hz0 (And.intro hz1 hz2)))
 have HK:=znq hk
 have HH:=znq hh
 have HHM:=znq (show (h.map B).length=16 by rw [yf];exact hh)
 have HN:=znq hn
 have HL:=znq hl
 have HS:=znq (St.start w)
 have d1:decide ((n:Int) > 31)=false:=by simp;omega
 have d2:decide ((i:Int) < 0)=false:=by simp
 have d3:decide ((j:Int) < 0)=false:=by simp
 have HC1:=znq (show wC 0 (fl n) (2*16)=some (0,n) from by have:=jR 0 n (2*16) (by omega) (by omega);rwa [Qc] at this)
 obtain ⟨b,hb⟩:∃ b,b=block (kf (half++[8])):=⟨_,rfl⟩
 obtain ⟨x,hx⟩:∃ x,x=pM k 0 i (plusB [b,h,qX j]):=⟨_,rfl⟩
 have HB:=znq (show block (kf (half++[8]))=b∧True from ⟨hb.symm,trivial⟩)
 have HX:=znq (show pM k 0 i (plusB [b,h,qX j])=x∧True from ⟨hx.symm,trivial⟩)
 have HE:=znq (show ((jm x).drop 0).take n=Ezt.stepT k h i j half∧True from ⟨by rw [bL,hx,hb,← hn];rfl,trivial⟩)
 have HBL:=znq (show b.length=16 by rw [hb];exact zA _)
 have zfV:=znq (show (b.map B).length=16 by rw [yf,hb];exact zA _)
 have HXL:=znq (show x.length=16 by rw [hx];exact yo _ _ _ _)
 have zjY:=znq (show (x.map B).length=16 by rw [yf];exact HXL.znr)
 clear hk hh hn hl hb hx hi0 hz0 hz1 hz2
 go_enter Tryz.func236,Tryz.ntmps236
 go_wp2_with (refine zh 59 _ (h.map B) _ rfl rfl rfl rfl ?_)
 intro w1 hb hbel;have HS:=znq (HS.znr.push hb hbel);have hlt1:=hb.lt;clear hb hbel
 have hwb:=HS.znr.bel.size
 go_wp2_with fail
 refine (YR ao n cap (half.map B) _ (by rw [yf];exact HN.znr) (by omega) (HL.znr.below HS.znr.bel) (j9 half)).mono ?_
 rintro e w2 ⟨v2,rfl,hown2,mV⟩
 have HOWN:=znq hown2
 have HS:=znq (HS.znr.later mV)
 have zjZ:=mV.size
 clear hown2 mV
 simp only [id]
 go_wp2_with (at_builtin;refine yD rfl (.tmp 31) (.tmp 32) 22 rfl w1.heap.size 5 i0 (.int .u8 0) 1 Tryz.underlying22 HI.znr.1 HI.znr.2.1 HI.znr.2.2.1 HI.znr.2.2.2 rfl _ _ _ rfl (zm HOWN.znr (zD w2 (.cells #[.int .u8 8] 5))) (some ⟨w2.heap.size,0,none⟩) 1 1 [.int .u8 8] rfl rfl (Blk.new w2 [.int .u8 8] 5).lies (by intro u hu;simp at hu;subst hu;rfl) (by unfold maxLen;omega) (by omega) (by simp;omega) ?_)
 intro v3 w3 hown3 hg3
 have mY:Below w1.heap.size w2 w3:=z8 ((zD w2 (.cells #[.int .u8 8] 5)).mono zjZ) (zm HOWN.znr (zD w2 (.cells #[.int .u8 8] 5))) hg3 (xc _) (by simp;omega)
 have HS:=znq (HS.znr.low mY hwb (by intro e he;simp at he;subst he;exact hlt1))
 obtain ⟨a3,c3,rfl,hc3,_,hl3⟩:=zw hown3
 have HL3:=znq (show zr w3 a3 ((half++[8]).map B) by rw [uI];exact hl3)
 have hsz23:=mY.size
 clear hown3 hg3 hl3 mY HOWN
 go_wp2_with fail
 refine (zaa a3 (n+1) c3 (half++[8]) _ (by rw [q8,HN.znr];rfl) (by omega) HL3.znr).mono ?_
 rintro e w4 ⟨v4,rfl,zbU,nD⟩
 obtain ⟨a4,c4,rfl,_,_,hl4⟩:=zw zbU
 have HS:=znq (HS.znr.later nD)
 have HL4:=znq hl4
 clear zbU nD hl4 HL3
 simp only [id]
 go_wp2_with fail
 refine (yQ a4 ((n+1+1) / 2) c4 (kf (half++[8])) _ (by rw [ZE,q8,HN.znr];rfl) HL4.znr).mono ?_
 rintro e w5 ⟨rfl,mX⟩
 rw [HB.znr.1]
 have HS:=znq (HS.znr.later mX)
 clear mX HL4
 have hz:=(HS.znr.get 0 rfl).lt
 go_wp2_with (refine ze 59 ((zf 16).map B) _ rfl rfl zj rfl ?_)
 intro w6 hb hbel;have HS:=znq (HS.znr.push hb hbel);have zfP:=hb.lt;clear hb hbel
 generalize hbb:w.heap.size=bb at *
 generalize w5.heap.size=b5 at *
 have HBB:=znq hbb
 clear hbb
 go_wp2_with (refine (HS.znr.get 0 rfl).mM rfl rfl rfl (cs:=b.map B) rfl zc (by simp [zd]) zfV.znr (zg _) ?_)
 intro w7 hb7 ho7
 have HS:=znq (HS.znr.change 0 hb7 ho7 (by omega) (by simp;omega))
 clear hb7 ho7
 have hsz7:bb≤w7.heap.size:=HS.znr.size
 go_wp2_with fail
 refine yn [0,1,2,3,4] [5,6,7,8] [10] [zH.var 9 12 59 ((zf 16).map B)] (by kernel_rfl) (by kernel_rfl) ?_
 rintro w8 rfl
 iterate 2 refine m10 ?_
 refine zL (HS.znr.drew.get 0 rfl).range (HS.znr.drew.get 0 rfl).lt zc zfV.znr rfl rfl rfl (fun K hK=>?_)
 go_simp;refine hK _ ?_;clear hK K
 refine zL (HS.znr.drew.get 1 rfl).range (HS.znr.drew.get 1 rfl).lt zc HHM.znr rfl rfl rfl (fun K hK=>?_)
 go_simp;refine hK _ ?_;clear hK K
 refine mq0 ?_
 refine yK ⟨?_,?_,xc _⟩
 ·intro f hf
  simp only [List.mem_singleton] at hf
  subst hf
  exact zhq _ _ _ _ _ _ rfl rfl rfl rfl (by simp) zj rfl
 refine zC rfl rfl (fun u w9 hl9 K hK=>?_)
 go_simp
 have HS:=znq (HS.znr.drew.later hl9)
 refine (zb5 j _ hj).mono ?_
 rintro e w10 ⟨rfl,nE⟩
 have HS:=znq (HS.znr.later nE)
 have HCL:=znq (Yn j)
 go_simp
 refine hK _ _ nE ?_
 clear hK K nE hl9
 refine zC rfl rfl (fun u w11 zeP K hK=>?_)
 refine y8 299 59 16 3 _ [b.map B,h.map B,(qX j).map B] rfl rfl Tryz.underlying299 zF rfl (by omega) rfl (by omega) (by omega) (by simp [HBL.znr,HH.znr,HCL.znr]) ?_
 intro w12 pY rG
 have HS:=znq (HS.znr.later (zeP.trans rG))
 refine hK _ _ rG ?_
 clear hK K rG zeP
 have HR:=znq (show yB 16 w12 (some ⟨w11.heap.size,0,none⟩) [b,h,qX j] from ⟨by simp [HBL.znr,HH.znr,HCL.znr],by have:=pY.lies;simpa using this⟩)
 clear pY
 go_simp
 refine zC rfl rfl (fun u w13 zkA K hK=>?_)
 go_simp
 refine (zb4 (some ⟨w11.heap.size,0,none⟩) 3 3 [b,h,qX j] _ rfl (by omega) (HR.znr.below zkA)).mono ?_
 rintro e w14 ⟨rfl,zbW⟩
 have HS:=znq (HS.znr.later (zkA.trans zbW))
 go_simp
 refine hK _ _ zbW ?_
 clear hK K zbW zkA HR
 refine zC rfl rfl (fun u w15 hl15 K hK=>?_)
 go_simp
 have HS:=znq (HS.znr.later hl15)
 refine (YZ kp q p 0 i k (plusB [b,h,qX j]) _ (HK.znr.later (HS.znr.old HBB.znr)) (by omega) hi (Xd _)).mono ?_
 rintro e w16 ⟨rfl,zbX⟩
 rw [HX.znr.1]
 have HS:=znq (HS.znr.later zbX)
 go_simp
 refine hK _ _ zbX ?_
 clear hK K zbX hl15
 refine yZ (fun bx w17 hl17 hbx hbn=>?_)
 go_simp
 have HS:=znq (HS.znr.later hl17)
 have HN7:=znq (show Blk w17 bx ((zf 16).map B) 59 from hbn)
 clear hl17 hbn
 refine zp rfl rfl (by rfl) (fun K hK=>?_)
 refine HN7.znr.mZ rfl rfl rfl zc (by simp [zd]) zjY.znr (zg _) (fun w18 ziJ zfX=>hK _ _ ?_)
 clear hK K
 have HBE:=znq (zk HS.znr.bel zfX (by omega))
 have HX18:=znq ziJ
 clear ziJ zfX
 go_simp
 refine zo ?_
 go_wp2_with fail
 refine (QQ (some ⟨bx,0,none⟩) 16 16 x 0 (fl n) 0 n _ HXL.znr (by omega) HX18.znr.lies HC1.znr).mono ?_
 rintro e w19 ⟨v19,rfl,zbY,zdz⟩
 rw [HE.znr.1] at zbY
 have hle:bb≤w18.heap.size:=by rw [← HBB.znr];exact HBE.znr.size
 have HOWN:=znq (yi zbY hle)
 have HBE:=znq (HBE.znr.trans (zdz.mono hle))
 clear zbY zdz
 simp only []
 go_wp2
 go_ret
 exact ⟨_,rfl,by rw [HBB.znr];exact HOWN.znr,by rw [HBB.znr];exact HBE.znr⟩
end Go.Proofs.YtamdifhibogdiaaGreatDoor
namespace Go.Proofs.YtamdifhibogdiaaGreatDoor
open RowKit Mem Ops Cells Oct Gf Trn Aes Ring Ezk Ezh Ezt ru Fl
attribute [local irreducible] zE zN zO zM yu
theorem _root_.Go.Cells.Blk.zbZ {w w':World} {base:Nat} {e ty:TypeId} {size:Nat} {v:Value} {n c:Nat} {xs vs:List Value} (h:Blk w c vs ty) (hne:e≠ty) (hown:w.ownsRow base e size v n xs) (hg:w.grownBy w' v.ownBlock):Blk w' c vs ty:=by
 refine (hg.block c h.lt (fun e'=>?_)).trans h
 rcases hown.2 with ⟨rfl,_⟩ | ⟨g,cap,cur,rfl,_,hh,_⟩
 ·simp [Value.ownBlock] at e'
 ·simp [Value.ownBlock] at e'
  subst e'
  rw [show w.heap[c]? = _ from h] at hh
  cases hh
  exact hne rfl
theorem ZM (n:Nat):qx n=if 16≤n then 6 else 7:=rfl
theorem zf0 (n:Nat):qx n≤1000:=by unfold qx;split <;> omega
theorem JB (n:Nat):yj n≤24:=by unfold yj;repeat (first | omega | split)
theorem Kh {n:Nat} (h1:1≤n) (h2:n≤31):1≤yj n:=by unfold yj;rw [if_neg (by omega)];repeat (first | omega | split)
abbrev XB (kp bh bt:Nat) (am:Option Addr) (n cm i j:Nat) (us:Nat→Value):Act:={ tmps:=#[.pointer (some ⟨kp,0,none⟩),us 1,.slice am n cm,.bool false,us 4,us 5,us 6,us 7,us 8,us 9,.pointer (some ⟨bh,0,none⟩),.int .i64 i,.int .i64 j,.int .i64 (1),.pointer (some ⟨bt,0,none⟩),us 15,us 16,us 17,us 18,us 19,us 20,us 21,us 22,us 23,us 24,us 25,us 26,us 27,us 28,us 29,us 30,us 31,us 32,us 33,us 34,us 35,us 36,us 37,us 38,us 39,us 40,us 41,us 42,us 43,us 44,us 45,us 46,us 47,us 48,us 49,us 50,us 51,us 52,us 53,us 54,us 55,us 56,us 57,us 58,us 59,us 60,us 61,us 62,us 63,us 64,us 65,us 66,us 67,us 68,us 69,us 70,us 71,us 72,us 73,us 74,us 75,us 76,us 77,us 78,us 79,us 80,us 81,us 82],defers:=[] }
def YS (kp n bb:Nat) (k:zv) (h:List UInt8) (st:List UInt8×List UInt8) (w:World) (x:Act) (wr:World):Prop :=
 ∃ (us:Nat→Value) (bh bt:Nat) (am:Option Addr) (cm j:Nat) (a0 a1:Option Addr) (c0 c1:Nat) (p:List UInt8×List UInt8),x=XB kp bh bt am n cm (qx n) j us∧j < yj n∧bb≤bh∧bb≤bt∧bh≠bt ∧
  Hid (Two n p)∧Hid (p=upT k h (qx n) j st∧True)∧Hid (St w bb wr [(bt,[.slice a0 n c0,.slice a1 n c1],338),(bh,h.map B,59)]) ∧
  Hid (wr.ownsRow bb 5 1 (.slice a0 n c0) n (p.1.map B))∧Hid (wr.ownsRow bb 5 1 (.slice a1 n c1) n (p.2.map B))
theorem YS.intro {kp n bb:Nat} {k:zv} {h:List UInt8} {st:List UInt8×List UInt8} {w:World} {x:Act} {wr:World} (bh bt:Nat) (am:Option Addr) (cm j:Nat) (a0 a1:Option Addr) (c0 c1:Nat) (p:List UInt8×List UInt8)
  (hx:x=XB kp bh bt am n cm (qx n) j (fun i=>x.tmps.getD i undef)) (hj:j < yj n) (h1:bb≤bh) (h2:bb≤bt) (h3:bh≠bt) (h4:Two n p) (h5:p=upT k h (qx n) j st) (h6:St w bb wr [(bt,[.slice a0 n c0,.slice a1 n c1],338),(bh,h.map B,59)])
  (h7:wr.ownsRow bb 5 1 (.slice a0 n c0) n (p.1.map B)) (h8:wr.ownsRow bb 5 1 (.slice a1 n c1) n (p.2.map B)):YS kp n bb k h st w x wr :=
 ⟨_,bh,bt,am,cm,j,a0,a1,c0,c1,p,hx,hj,h1,h2,h3,h4,⟨h5,trivial⟩,h6,h7,h8⟩
theorem zmg (kp q tb:Nat) (k:zv) (ao:Option Addr) (N cap:Nat) (ss:List Str) (bo:Option Addr) (n cb:Nat) (m:List UInt8) (w:World) (hk:xH w kp q tb k) (hN:ss.length=N) (hN1:N≤500) (hs:xY w ao ss) (hlen:∀ s∈ss,s.bs.length≤10000)
  (hn:m.length=n) (h1:1≤n) (h31:n≤31) (hl:zr w bo (m.map B)) :
  Calls Tryz.prog 207 #[.pointer (some ⟨kp,0,none⟩),.slice ao N cap,.slice bo n cb,.bool false] w fun e w'=>∃ v,e=.returned (.tuple #[v,.int .i64 0])∧w'.ownsRow w.heap.size 5 1 v n ((jo k (rowOf ss) m false).map B)∧Below w.heap.size w w':=by
 obtain ⟨i0,hi0,hz0,hz1,hz2⟩:=info_parts qR
 have HI:=znq (And.intro hi0 (And.intro hz0 (And.intro hz1 hz2)))
 obtain ⟨h,hh⟩:∃ h,h=qB k (rowOf ss):=⟨_,rfl⟩
 obtain ⟨fm,hfm⟩:∃ fm,fm=m:=⟨_,rfl⟩
 have HH:=znq (show qB k (rowOf ss)=h∧True from ⟨hh.symm,trivial⟩)
 have HHL:=znq (show h.length=16 by rw [hh];exact vk _ _)
 have HHM:=znq (show (h.map B).length=16 by rw [yf];exact HHL.znr)
 have HFM:=znq (show m=fm∧True from ⟨hfm.symm,trivial⟩)
 have HFL:=znq (show fm.length=n by rw [hfm];exact hn)
 have HTT:=znq (show jo k (rowOf ss) m false=xx k h (Yo (upT k h (qx n) (yj n) (xE fm,yV fm)))∧True from ⟨by unfold jo;rw [if_neg (by simp)];rw [hn,← hh,hfm],trivial⟩)
 have HST:=znq (show Two n (xE fm,yV fm) by have:=Two.start fm;rwa [HFL.znr] at this)
 rw [HTT.znr.1]
 have HK:=znq hk
 have HNN:=znq hN
 have HSS:=znq hs
 have HLEN:=znq hlen
 have HN:=znq hn
 have HL:=znq hl
 obtain ⟨bb,hbb⟩:∃ bb,bb=w.heap.size:=⟨_,rfl⟩
 have HBB:=znq (show w.heap.size=bb from hbb.symm)
 have HS:=znq (show St w bb w [] by rw [hbb];exact St.start w)
 have f0:((n:Int)==0)=false:=by simp;omega
 have f1:decide ((n:Int) > 31)=false:=by simp;omega
 have hR1:=Kh h1 h31
 have hR24:=JB n
 have HTB:=znq (show (5:TypeId)≠59 by decide)
 have HTY:=znq (show (5:TypeId)≠338 by decide)
 clear hk hN hs hlen hn hl hi0 hz0 hz1 hz2 hh hfm HTT hbb
 go_enter Tryz.func207,Tryz.ntmps207
 go_wp2_with fail
 refine yd 0 (YS kp n bb k h (xE fm,yV fm) w) (fun x _=>100 - (intOf (x.tmps.getD 12 undef)).toNat) rfl ?_ ?_
 ·simp only [q9]
  go_wp2_with fail
  refine (KM kp q tb k ao N cap ss _ HK.znr HNN.znr hN1 HSS.znr HLEN.znr).mono ?_
  rintro e w1 ⟨rfl,nC⟩
  rw [HH.znr.1]
  have HS:=znq (HS.znr.later nC)
  clear nC
  go_wp2_with (refine ze 59 ((zf 16).map B) _ rfl rfl zj rfl ?_)
  intro w2 hb hbel;have hs1:=HS.znr.size;have HS:=znq (HS.znr.push hb hbel);have hlt2:=hb.lt;clear hb hbel
  generalize w1.heap.size=bh at *
  go_wp2_with (refine (HS.znr.get 0 rfl).mM rfl rfl rfl (cs:=h.map B) rfl zc (by simp [zd]) HHM.znr (zg _) ?_)
  intro w3 hb3 ho3
  have HS:=znq (HS.znr.change 0 hb3 ho3 (by omega) (by simp))
  clear hb3 ho3
  by_cases h16:16≤n
  ·have hd:decide ((n:Int)≥16)=true:=by simp;omega
   have zdU:=znq (show (6:Int)=((qx n:Nat):Int) by rw [ZM,if_pos h16];rfl)
   go_wp2_with fail
   refine (ZL bo n cb fm _ HFL.znr h31 (by rw [← HFM.znr.1];exact HL.znr.below (HS.znr.old HBB.znr))).mono ?_
   rintro e w6 ⟨v0,v1,rfl,hown0,hown1,mQ⟩
   have zaV:=HS.znr.size
   have HO0:=znq (yi hown0 zaV)
   have HO1:=znq (yi hown1 zaV)
   have hz:=(HS.znr.get 0 rfl).lt
   have hz6:=mQ.size
   have HS:=znq (HS.znr.later mQ)
   clear hown0 hown1 mQ
   obtain ⟨a0,c0,rfl,_,_,_⟩:=zw HO0.znr
   obtain ⟨a1,c1,rfl,_,_,_⟩:=zw HO1.znr
   go_wp2_with (refine ze 338 [.slice none 0 0,.slice none 0 0] _ rfl rfl jb rfl ?_)
   intro w7 hb hbel;have HO0:=znq (zm HO0.znr hbel);have HO1:=znq (zm HO1.znr hbel);have HS:=znq (HS.znr.push hb hbel);have zcQ:=hb.lt;clear hb hbel
   generalize w6.heap.size=bt at *
   go_wp2_with (refine (HS.znr.get 0 rfl).mM rfl rfl rfl (cs:=[.slice a0 n c0,.slice a1 n c1]) rfl kR rfl rfl (by intro v hv;simp at hv;rcases hv with rfl | rfl <;> rfl) ?_)
   intro w8 hb8 ho8
   have HO0:=znq (zu HO0.znr (HS.znr.get 0 rfl) HTY.znr ho8)
   have HO1:=znq (zu HO1.znr (HS.znr.get 0 rfl) HTY.znr ho8)
   have HS:=znq (HS.znr.change 0 hb8 ho8 (by omega) (by simp;omega))
   clear hb8 ho8
   go_wp2
   rw [zdU.znr]
   exact YS.intro bh bt bo cb 0 a0 a1 c0 c1 (xE fm,yV fm) rfl (by omega) (by omega) (by omega) (by omega) HST.znr rfl HS.znr HO0.znr HO1.znr
  ·have hd:decide ((n:Int)≥16)=false:=by simp;omega
   have zdU:=znq (show (7:Int)=((qx n:Nat):Int) by rw [ZM,if_neg h16];rfl)
   go_wp2_with fail
   refine (ZL bo n cb fm _ HFL.znr h31 (by rw [← HFM.znr.1];exact HL.znr.below (HS.znr.old HBB.znr))).mono ?_
   rintro e w6 ⟨v0,v1,rfl,hown0,hown1,mQ⟩
   have zaV:=HS.znr.size
   have HO0:=znq (yi hown0 zaV)
   have HO1:=znq (yi hown1 zaV)
   have hz:=(HS.znr.get 0 rfl).lt
   have hz6:=mQ.size
   have HS:=znq (HS.znr.later mQ)
   clear hown0 hown1 mQ
   obtain ⟨a0,c0,rfl,_,_,_⟩:=zw HO0.znr
   obtain ⟨a1,c1,rfl,_,_,_⟩:=zw HO1.znr
   go_wp2_with (refine ze 338 [.slice none 0 0,.slice none 0 0] _ rfl rfl jb rfl ?_)
   intro w7 hb hbel;have HO0:=znq (zm HO0.znr hbel);have HO1:=znq (zm HO1.znr hbel);have HS:=znq (HS.znr.push hb hbel);have zcQ:=hb.lt;clear hb hbel
   generalize w6.heap.size=bt at *
   go_wp2_with (refine (HS.znr.get 0 rfl).mM rfl rfl rfl (cs:=[.slice a0 n c0,.slice a1 n c1]) rfl kR rfl rfl (by intro v hv;simp at hv;rcases hv with rfl | rfl <;> rfl) ?_)
   intro w8 hb8 ho8
   have HO0:=znq (zu HO0.znr (HS.znr.get 0 rfl) HTY.znr ho8)
   have HO1:=znq (zu HO1.znr (HS.znr.get 0 rfl) HTY.znr ho8)
   have HS:=znq (HS.znr.change 0 hb8 ho8 (by omega) (by simp;omega))
   clear hb8 ho8
   go_wp2
   rw [zdU.znr]
   exact YS.intro bh bt bo cb 0 a0 a1 c0 c1 (xE fm,yV fm) rfl (by omega) (by omega) (by omega) (by omega) HST.znr rfl HS.znr HO0.znr HO1.znr
 ·clear HS HL HSS
  rintro x wr ⟨us,bh,bt,am,cm,j,a0,a1,c0,c1,p,rfl,hjR,hbh,hbt,hne,HTW,HG,HS,HO0,HO1⟩
  have hc0:=fun (y:zG wr.drew)=>((HS.znr.drew.later y.later).get 0 rfl).cell 0 _ rfl
  have hc1:=fun (y:zG wr.drew)=>((HS.znr.drew.later y.later).get 0 rfl).cell 1 _ rfl
  have hn5:=zf0 n
  have hj24:j≤23:=by omega
  have HL0:=znq (zr.nQ HO0.znr)
  have HL1:=znq (zr.nQ HO1.znr)
  have HT1:=znq HTW.znr.1
  have HT2:=znq HTW.znr.2
  obtain ⟨s,hs⟩:∃ s,s=Ezt.stepT k h (qx n) j p.2:=⟨_,rfl⟩
  have HSE:=znq (show Ezt.stepT k h (qx n) j p.2=s∧True from ⟨hs.symm,trivial⟩)
  have HSL:=znq (show s.length=n by rw [hs,vl _ _ _ _ _ (by rw [HTW.znr.2];exact h31)];exact HTW.znr.2)
  have HSW:=znq (show swapT k h (qx n) j p=(p.2,nX p.1 s)∧True from ⟨by rw [hs];rfl,trivial⟩)
  clear hs
  simp only [XB]
  go_wp2_with fail
  refine zn [0,1,2,3,4,5,6,7,8,9,12,10,11,13,14,15] (by kernel_rfl) (by kernel_rfl) ?_
  rintro w1 rfl
  iterate 5 refine m1R ?_
  refine zt (HS.znr.drew.get 1 rfl).range (HS.znr.drew.get 1 rfl).lt zc HHM.znr rfl rfl rfl rfl (fun K hK=>?_)
  go_simp;refine hK _ ?_;clear hK K
  iterate 5 refine m1R ?_
  clear hc0 hc1
  have hw1:bb≤wr.drew.heap.size:=HS.znr.drew.size
  refine zi rfl rfl (by rfl) (fun K hK=>?_)
  go_simp
  refine (zca kp q tb k h (qx n) j a1 n c1 p.2 _ (HK.znr.later (HS.znr.drew.old HBB.znr)) HHL.znr hn5 (by omega) HT2.znr h31 (HL1.znr.below (Below.refl _ _).drew)).mono ?_
  rintro e w2 ⟨v2,rfl,hown2,mV⟩
  rw [HSE.znr.1] at hown2
  obtain ⟨a2,c2,rfl,_,_,hl2⟩:=zw hown2
  have HL2:=znq hl2
  have rQ:=(Below.refl _ wr).drew.trans mV
  have HS:=znq (HS.znr.drew.later mV)
  have HO0:=znq (zm HO0.znr rQ)
  have HO1:=znq (zm HO1.znr rQ)
  have HL0:=znq (HL0.znr.below rQ)
  clear hown2 hl2 rQ
  go_simp
  refine hK _ _ mV ?_
  clear hK K mV
  refine zi rfl rfl (by rfl) (fun K hK=>?_)
  go_simp
  refine (j1 a0 a2 n n c0 c2 p.1 s _ HT1.znr HSL.znr (by omega) (by omega) HL0.znr HL2.znr).mono ?_
  rintro e w3 ⟨v3,rfl,hown3,mY⟩
  rw [mq] at hown3
  obtain ⟨a3,c3,rfl,_,_,_⟩:=zw hown3
  have hw2:=HS.znr.size
  have HO3:=znq (yi hown3 hw2)
  have HS:=znq (HS.znr.later mY)
  have HO1:=znq (zm HO1.znr mY)
  clear hown3 HL0 HL1 HL2 HO0
  simp only [id]
  go_simp
  refine hK _ _ mY ?_
  clear hK K mY
  refine zp rfl rfl (by rfl) (fun K hK=>?_)
  refine (HS.znr.get 0 rfl).nO (v:=.slice a1 n c1) rfl rfl rfl jQ rfl rfl (by simp) (fun w4 hb4 ho4=>hK _ _ ?_)
  clear hK K
  have HO1:=znq (zu HO1.znr (HS.znr.get 0 rfl) HTY.znr ho4)
  have HO3:=znq (zu HO3.znr (HS.znr.get 0 rfl) HTY.znr ho4)
  have HS:=znq (show St w bb w4 [(bt,[.slice a1 n c1,.slice a1 n c1],338),(bh,h.map B,59)] from HS.znr.change 0 hb4 ho4 (by omega) (by simp;omega))
  clear hb4 ho4
  go_simp
  refine m1R ?_
  refine zp rfl rfl (by rfl) (fun K hK=>?_)
  refine (HS.znr.get 0 rfl).nO (v:=.slice a3 n c3) rfl rfl rfl jQ rfl rfl (by simp) (fun w5 hb5 ho5=>hK _ _ ?_)
  clear hK K
  have HO1:=znq (zu HO1.znr (HS.znr.get 0 rfl) HTY.znr ho5)
  have HO3:=znq (zu HO3.znr (HS.znr.get 0 rfl) HTY.znr ho5)
  have HS:=znq (show St w bb w5 [(bt,[.slice a1 n c1,.slice a3 n c3],338),(bh,h.map B,59)] from HS.znr.change 0 hb5 ho5 (by omega) (by simp;omega))
  clear hb5 ho5
  go_simp
  refine zo ?_
  obtain ⟨x1,hx1⟩:∃ x1,x1=nX p.1 s:=⟨_,rfl⟩
  have HXE:=znq (show nX p.1 s=x1∧True from ⟨hx1.symm,trivial⟩)
  rw [HXE.znr.1] at HO3 HSW
  have HT3:=znq (show Two n (p.2,x1) from by
   have:=HTW.znr.swap (k:=k) (h:=h) (i:=qx n) (j:=j) h31
   rwa [HSW.znr.1] at this)
  clear hx1
  have dd:decide ((j:Int)+1≥0)=true:=by simp;omega
  have dd2:decide (0≤(j:Int)+1)=true:=by simp;omega
  go_wp2_with fail
  refine (ZJ n _ h1 h31).mono ?_
  rintro e w6 ⟨rfl,rfl⟩
  by_cases hlast:j+1 < yj n
  ·have hd:decide ((j:Int)+1 < (yj n:Int))=true:=by simp;omega
   have HG':=znq (show (p.2,x1)=upT k h (qx n) (j+1) (xE fm,yV fm)∧True from ⟨by rw [← HSW.znr.1,HG.znr.1];rfl,trivial⟩)
   go_wp2_with fail
   refine wp_goto ?_
   exact ⟨rfl,YS.intro bh bt am cm (j+1) a1 a3 c1 c3 (p.2,x1) (by rfl) hlast hbh hbt hne HT3.znr HG'.znr.1 HS.znr HO1.znr HO3.znr,by simp [intOf];omega⟩
  ·have hd:decide ((j:Int)+1 < (yj n:Int))=false:=by simp;omega
   have HG':=znq (show (p.2,x1)=upT k h (qx n) (yj n) (xE fm,yV fm)∧True from ⟨by rw [← HSW.znr.1,HG.znr.1,show yj n=j+1 by omega];rfl,trivial⟩)
   have hc0:=(HS.znr.get 0 rfl).cell 0 _ rfl
   have hc1:=(HS.znr.get 0 rfl).cell 1 _ rfl
   have HL1:=znq (zr.nQ HO1.znr)
   have hsz:=HS.znr.size
   go_wp2_with (at_builtin;refine yD rfl (.tmp 71) (.tmp 73) 22 rfl bb 5 i0 (.int .u8 0) 1 Tryz.underlying22 HI.znr.1 HI.znr.2.1 HI.znr.2.2.1 HI.znr.2.2.2 rfl _ _ _ rfl HO3.znr a1 n c1 (p.2.map B) rfl (by rw [yf];exact HT2.znr) HL1.znr (j9 _) (by unfold maxLen;omega) (by omega) hsz ?_)
   intro v7 w7 rq hg7
   have ny:=z8 HS.znr.bel HO3.znr hg7 (xc _) hsz
   obtain ⟨a7,c7,rfl,_,_,hl7⟩:=zw rq
   have HL7:=znq (show zr w7 a7 ((x1++p.2).map B) by rw [uI];exact hl7)
   have HBE:=znq ny
   have HX1:=znq HT3.znr.2
   have HBH:=znq ((HS.znr.get 1 rfl).zbZ HTB.znr HO3.znr hg7)
   clear rq hg7 hl7 ny hc0 hc1
   go_wp2_with fail
   refine (zaa a7 (n+n) c7 (x1++p.2) _ (by rw [q8,HX1.znr,HT2.znr]) (by omega) HL7.znr).mono ?_
   rintro e w8 ⟨v8,rfl,p9,nG⟩
   rw [show (n+n+1) / 2=n by omega] at p9
   have p9:w8.ownsRow w7.heap.size 5 1 v8 n ((Yo (p.2,x1)).map B):=p9
   rw [HG'.znr.1] at p9
   have zfY:bb≤w7.heap.size:=by rw [← HBB.znr];exact HBE.znr.size
   have HOWN:=znq (yi p9 zfY)
   have HBE:=znq (HBE.znr.trans (nG.mono zfY))
   simp only [id]
   have HBH:=znq (HBH.znr.below nG HBH.znr.lt)
   clear p9 nG
   obtain ⟨a8,c8,rfl,hc8,_,hl8⟩:=zw HOWN.znr
   have HL8:=znq hl8
   have HOL:=znq (show (Yo (upT k h (qx n) (yj n) (xE fm,yV fm))).length=n by rw [← HG'.znr.1];exact HT3.znr.out)
   clear hl8
   go_wp2_with (refine HBH.znr.mP rfl rfl rfl zc HHM.znr ?_)
   go_wp2_with fail
   refine (JA kp q tb k h a8 n c8 _ _ (HK.znr.later (show Below w.heap.size w _ by rw [HBB.znr];exact HBE.znr)) HHL.znr HOL.znr h1 h31 HL8.znr).mono ?_
   rintro e w9 ⟨v9,rfl,zb2,nM⟩
   have hle8:bb≤w8.heap.size:=by rw [← HBB.znr];exact HBE.znr.size
   have HOWN:=znq (yi zb2 hle8)
   have HBE:=znq (HBE.znr.trans (nM.mono hle8))
   clear zb2 nM
   go_wp2
   rw [Exit.nZ]
   go_ret2
   exact ⟨_,rfl,by rw [HBB.znr];exact HOWN.znr,by rw [HBB.znr];exact HBE.znr⟩
abbrev XC (kp bh bt:Nat) (am:Option Addr) (n cm i j:Nat) (us:Nat→Value):Act:={ tmps:=#[.pointer (some ⟨kp,0,none⟩),us 1,.slice am n cm,.bool true,us 4,us 5,us 6,us 7,us 8,us 9,.pointer (some ⟨bh,0,none⟩),.int .i64 i,.int .i64 j,.int .i64 (-1),.pointer (some ⟨bt,0,none⟩),us 15,us 16,us 17,us 18,us 19,us 20,us 21,us 22,us 23,us 24,us 25,us 26,us 27,us 28,us 29,us 30,us 31,us 32,us 33,us 34,us 35,us 36,us 37,us 38,us 39,us 40,us 41,us 42,us 43,us 44,us 45,us 46,us 47,us 48,us 49,us 50,us 51,us 52,us 53,us 54,us 55,us 56,us 57,us 58,us 59,us 60,us 61,us 62,us 63,us 64,us 65,us 66,us 67,us 68,us 69,us 70,us 71,us 72,us 73,us 74,us 75,us 76,us 77,us 78,us 79,us 80,us 81,us 82],defers:=[] }
def YT (kp n bb:Nat) (k:zv) (h:List UInt8) (st:List UInt8×List UInt8) (w:World) (x:Act) (wr:World):Prop :=
 ∃ (us:Nat→Value) (bh bt:Nat) (am:Option Addr) (cm j:Nat) (a0 a1:Option Addr) (c0 c1:Nat) (p:List UInt8×List UInt8),x=XC kp bh bt am n cm (qx n) j us∧j < yj n∧bb≤bh∧bb≤bt∧bh≠bt ∧
  Hid (Two n p)∧Hid (ja k h (qx n) (j+1) p=ja k h (qx n) (yj n) st∧True)∧Hid (St w bb wr [(bt,[.slice a0 n c0,.slice a1 n c1],338),(bh,h.map B,59)]) ∧
  Hid (wr.ownsRow bb 5 1 (.slice a0 n c0) n (p.1.map B))∧Hid (wr.ownsRow bb 5 1 (.slice a1 n c1) n (p.2.map B))
theorem YT.intro {kp n bb:Nat} {k:zv} {h:List UInt8} {st:List UInt8×List UInt8} {w:World} {x:Act} {wr:World} (bh bt:Nat) (am:Option Addr) (cm j:Nat) (a0 a1:Option Addr) (c0 c1:Nat) (p:List UInt8×List UInt8)
  (hx:x=XC kp bh bt am n cm (qx n) j (fun i=>x.tmps.getD i undef)) (hj:j < yj n) (h1:bb≤bh) (h2:bb≤bt) (h3:bh≠bt) (h4:Two n p) (h5:ja k h (qx n) (j+1) p=ja k h (qx n) (yj n) st) (h6:St w bb wr [(bt,[.slice a0 n c0,.slice a1 n c1],338),(bh,h.map B,59)])
  (h7:wr.ownsRow bb 5 1 (.slice a0 n c0) n (p.1.map B)) (h8:wr.ownsRow bb 5 1 (.slice a1 n c1) n (p.2.map B)):YT kp n bb k h st w x wr :=
 ⟨_,bh,bt,am,cm,j,a0,a1,c0,c1,p,hx,hj,h1,h2,h3,h4,⟨h5,trivial⟩,h6,h7,h8⟩
theorem zmh (kp q tb:Nat) (k:zv) (ao:Option Addr) (N cap:Nat) (ss:List Str) (bo:Option Addr) (n cb:Nat) (m:List UInt8) (w:World) (hk:xH w kp q tb k) (hN:ss.length=N) (hN1:N≤500) (hs:xY w ao ss) (hlen:∀ s∈ss,s.bs.length≤10000)
  (hn:m.length=n) (h1:1≤n) (h31:n≤31) (hl:zr w bo (m.map B)) :
  Calls Tryz.prog 207 #[.pointer (some ⟨kp,0,none⟩),.slice ao N cap,.slice bo n cb,.bool true] w fun e w'=>∃ v,e=.returned (.tuple #[v,.int .i64 0])∧w'.ownsRow w.heap.size 5 1 v n ((jo k (rowOf ss) m true).map B)∧Below w.heap.size w w':=by
 obtain ⟨i0,hi0,hz0,hz1,hz2⟩:=info_parts qR
 have HI:=znq (And.intro hi0 (And.intro hz0 (And.intro hz1 hz2)))
 obtain ⟨h,hh⟩:∃ h,h=qB k (rowOf ss):=⟨_,rfl⟩
 obtain ⟨fm,hfm⟩:∃ fm,fm=xx k h m:=⟨_,rfl⟩
 have HH:=znq (show qB k (rowOf ss)=h∧True from ⟨hh.symm,trivial⟩)
 have HHL:=znq (show h.length=16 by rw [hh];exact vk _ _)
 have HHM:=znq (show (h.map B).length=16 by rw [yf];exact HHL.znr)
 have HFM:=znq (show xx k h m=fm∧True from ⟨hfm.symm,trivial⟩)
 have HFL:=znq (show fm.length=n by rw [hfm];exact (k9 k h m).trans hn)
 have HTT:=znq (show jo k (rowOf ss) m true=Yo (ja k h (qx n) (yj n) (xE fm,yV fm))∧True from ⟨by unfold jo;rw [if_pos rfl];rw [hn,← hh,hfm],trivial⟩)
 have HST:=znq (show Two n (xE fm,yV fm) by have:=Two.start fm;rwa [HFL.znr] at this)
 rw [HTT.znr.1]
 have HK:=znq hk
 have HNN:=znq hN
 have HSS:=znq hs
 have HLEN:=znq hlen
 have HN:=znq hn
 have HL:=znq hl
 obtain ⟨bb,hbb⟩:∃ bb,bb=w.heap.size:=⟨_,rfl⟩
 have HBB:=znq (show w.heap.size=bb from hbb.symm)
 have HS:=znq (show St w bb w [] by rw [hbb];exact St.start w)
 have f0:((n:Int)==0)=false:=by simp;omega
 have f1:decide ((n:Int) > 31)=false:=by simp;omega
 have hR1:=Kh h1 h31
 have hR24:=JB n
 have HTB:=znq (show (5:TypeId)≠59 by decide)
 have HTY:=znq (show (5:TypeId)≠338 by decide)
 clear hk hN hs hlen hn hl hi0 hz0 hz1 hz2 hh hfm HTT hbb
 go_enter Tryz.func207,Tryz.ntmps207
 go_wp2_with fail
 refine yd 0 (YT kp n bb k h (xE fm,yV fm) w) (fun x _=>(intOf (x.tmps.getD 12 undef)).toNat+1) rfl ?_ ?_
 ·simp only [q9]
  go_wp2_with fail
  refine (KM kp q tb k ao N cap ss _ HK.znr HNN.znr hN1 HSS.znr HLEN.znr).mono ?_
  rintro e w1 ⟨rfl,nC⟩
  rw [HH.znr.1]
  have HS:=znq (HS.znr.later nC)
  clear nC
  go_wp2_with (refine ze 59 ((zf 16).map B) _ rfl rfl zj rfl ?_)
  intro w2 hb hbel;have hs1:=HS.znr.size;have HS:=znq (HS.znr.push hb hbel);have hlt2:=hb.lt;clear hb hbel
  generalize w1.heap.size=bh at *
  go_wp2_with (refine (HS.znr.get 0 rfl).mM rfl rfl rfl (cs:=h.map B) rfl zc (by simp [zd]) HHM.znr (zg _) ?_)
  intro w3 hb3 ho3
  have HS:=znq (HS.znr.change 0 hb3 ho3 (by omega) (by simp))
  clear hb3 ho3
  by_cases h16:16≤n
  ·have hd:decide ((n:Int)≥16)=true:=by simp;omega
   have zdU:=znq (show (6:Int)=((qx n:Nat):Int) by rw [ZM,if_pos h16];rfl)
   go_wp2_with fail
   refine (ZJ n _ h1 h31).mono ?_
   rintro e w4 ⟨rfl,rfl⟩
   go_wp2_with (refine (HS.znr.get 0 rfl).mP rfl rfl rfl zc HHM.znr ?_)
   go_wp2_with fail
   refine (JA kp q tb k h bo n cb m _ (HK.znr.later (HS.znr.old HBB.znr)) HHL.znr HN.znr h1 h31 (HL.znr.below (HS.znr.old HBB.znr))).mono ?_
   rintro e w5 ⟨v5,rfl,hown5,mX⟩
   rw [HFM.znr.1] at hown5
   obtain ⟨am,cm,rfl,hcm,_,hl5⟩:=zw hown5
   have HM:=znq hl5
   have HS:=znq (HS.znr.later mX)
   clear hown5 mX hl5
   go_wp2_with fail
   refine (ZL am n cm fm _ HFL.znr h31 HM.znr).mono ?_
   rintro e w6 ⟨v0,v1,rfl,hown0,hown1,mQ⟩
   have zaV:=HS.znr.size
   have HO0:=znq (yi hown0 zaV)
   have HO1:=znq (yi hown1 zaV)
   have hz:=(HS.znr.get 0 rfl).lt
   have hz6:=mQ.size
   have HS:=znq (HS.znr.later mQ)
   clear hown0 hown1 mQ
   obtain ⟨a0,c0,rfl,_,_,_⟩:=zw HO0.znr
   obtain ⟨a1,c1,rfl,_,_,_⟩:=zw HO1.znr
   go_wp2_with (refine ze 338 [.slice none 0 0,.slice none 0 0] _ rfl rfl jb rfl ?_)
   intro w7 hb hbel;have HO0:=znq (zm HO0.znr hbel);have HO1:=znq (zm HO1.znr hbel);have HS:=znq (HS.znr.push hb hbel);have zcQ:=hb.lt;clear hb hbel
   generalize w6.heap.size=bt at *
   go_wp2_with (refine (HS.znr.get 0 rfl).mM rfl rfl rfl (cs:=[.slice a0 n c0,.slice a1 n c1]) rfl kR rfl rfl (by intro v hv;simp at hv;rcases hv with rfl | rfl <;> rfl) ?_)
   intro w8 hb8 ho8
   have HO0:=znq (zu HO0.znr (HS.znr.get 0 rfl) HTY.znr ho8)
   have HO1:=znq (zu HO1.znr (HS.znr.get 0 rfl) HTY.znr ho8)
   have HS:=znq (HS.znr.change 0 hb8 ho8 (by omega) (by simp;omega))
   clear hb8 ho8
   go_wp2
   rw [zdU.znr]
   rw [show ((yj n:Nat):Int) - 1=((yj n - 1:Nat):Int) by omega]
   exact YT.intro bh bt am cm (yj n - 1) a0 a1 c0 c1 (xE fm,yV fm) rfl (by omega) (by omega) (by omega) (by omega) HST.znr (by rw [lL hR1]) HS.znr HO0.znr HO1.znr
  ·have hd:decide ((n:Int)≥16)=false:=by simp;omega
   have zdU:=znq (show (7:Int)=((qx n:Nat):Int) by rw [ZM,if_neg h16];rfl)
   go_wp2_with fail
   refine (ZJ n _ h1 h31).mono ?_
   rintro e w4 ⟨rfl,rfl⟩
   go_wp2_with (refine (HS.znr.get 0 rfl).mP rfl rfl rfl zc HHM.znr ?_)
   go_wp2_with fail
   refine (JA kp q tb k h bo n cb m _ (HK.znr.later (HS.znr.old HBB.znr)) HHL.znr HN.znr h1 h31 (HL.znr.below (HS.znr.old HBB.znr))).mono ?_
   rintro e w5 ⟨v5,rfl,hown5,mX⟩
   rw [HFM.znr.1] at hown5
   obtain ⟨am,cm,rfl,hcm,_,hl5⟩:=zw hown5
   have HM:=znq hl5
   have HS:=znq (HS.znr.later mX)
   clear hown5 mX hl5
   go_wp2_with fail
   refine (ZL am n cm fm _ HFL.znr h31 HM.znr).mono ?_
   rintro e w6 ⟨v0,v1,rfl,hown0,hown1,mQ⟩
   have zaV:=HS.znr.size
   have HO0:=znq (yi hown0 zaV)
   have HO1:=znq (yi hown1 zaV)
   have hz:=(HS.znr.get 0 rfl).lt
   have hz6:=mQ.size
   have HS:=znq (HS.znr.later mQ)
   clear hown0 hown1 mQ
   obtain ⟨a0,c0,rfl,_,_,_⟩:=zw HO0.znr
   obtain ⟨a1,c1,rfl,_,_,_⟩:=zw HO1.znr
   go_wp2_with (refine ze 338 [.slice none 0 0,.slice none 0 0] _ rfl rfl jb rfl ?_)
   intro w7 hb hbel;have HO0:=znq (zm HO0.znr hbel);have HO1:=znq (zm HO1.znr hbel);have HS:=znq (HS.znr.push hb hbel);have zcQ:=hb.lt;clear hb hbel
   generalize w6.heap.size=bt at *
   go_wp2_with (refine (HS.znr.get 0 rfl).mM rfl rfl rfl (cs:=[.slice a0 n c0,.slice a1 n c1]) rfl kR rfl rfl (by intro v hv;simp at hv;rcases hv with rfl | rfl <;> rfl) ?_)
   intro w8 hb8 ho8
   have HO0:=znq (zu HO0.znr (HS.znr.get 0 rfl) HTY.znr ho8)
   have HO1:=znq (zu HO1.znr (HS.znr.get 0 rfl) HTY.znr ho8)
   have HS:=znq (HS.znr.change 0 hb8 ho8 (by omega) (by simp;omega))
   clear hb8 ho8
   go_wp2
   rw [zdU.znr]
   rw [show ((yj n:Nat):Int) - 1=((yj n - 1:Nat):Int) by omega]
   exact YT.intro bh bt am cm (yj n - 1) a0 a1 c0 c1 (xE fm,yV fm) rfl (by omega) (by omega) (by omega) (by omega) HST.znr (by rw [lL hR1]) HS.znr HO0.znr HO1.znr
 ·clear HS HL HSS
  rintro x wr ⟨us,bh,bt,am,cm,j,a0,a1,c0,c1,p,rfl,hjR,hbh,hbt,hne,HTW,HG,HS,HO0,HO1⟩
  have hc0:=fun (y:zG wr.drew)=>((HS.znr.drew.later y.later).get 0 rfl).cell 0 _ rfl
  have hc1:=fun (y:zG wr.drew)=>((HS.znr.drew.later y.later).get 0 rfl).cell 1 _ rfl
  have hn5:=zf0 n
  have hj24:j≤23:=by omega
  have HL0:=znq (zr.nQ HO0.znr)
  have HL1:=znq (zr.nQ HO1.znr)
  have HT1:=znq HTW.znr.1
  have HT2:=znq HTW.znr.2
  obtain ⟨s,hs⟩:∃ s,s=Ezt.stepT k h (qx n) j p.2:=⟨_,rfl⟩
  have HSE:=znq (show Ezt.stepT k h (qx n) j p.2=s∧True from ⟨hs.symm,trivial⟩)
  have HSL:=znq (show s.length=n by rw [hs,vl _ _ _ _ _ (by rw [HTW.znr.2];exact h31)];exact HTW.znr.2)
  have HSW:=znq (show swapT k h (qx n) j p=(p.2,nX p.1 s)∧True from ⟨by rw [hs];rfl,trivial⟩)
  clear hs
  simp only [XC]
  go_wp2_with fail
  refine zn [0,1,2,3,4,5,6,7,8,9,12,10,11,13,14,15] (by kernel_rfl) (by kernel_rfl) ?_
  rintro w1 rfl
  iterate 5 refine m1R ?_
  refine zt (HS.znr.drew.get 1 rfl).range (HS.znr.drew.get 1 rfl).lt zc HHM.znr rfl rfl rfl rfl (fun K hK=>?_)
  go_simp;refine hK _ ?_;clear hK K
  iterate 5 refine m1R ?_
  clear hc0 hc1
  have hw1:bb≤wr.drew.heap.size:=HS.znr.drew.size
  refine zi rfl rfl (by rfl) (fun K hK=>?_)
  go_simp
  refine (zca kp q tb k h (qx n) j a1 n c1 p.2 _ (HK.znr.later (HS.znr.drew.old HBB.znr)) HHL.znr hn5 (by omega) HT2.znr h31 (HL1.znr.below (Below.refl _ _).drew)).mono ?_
  rintro e w2 ⟨v2,rfl,hown2,mV⟩
  rw [HSE.znr.1] at hown2
  obtain ⟨a2,c2,rfl,_,_,hl2⟩:=zw hown2
  have HL2:=znq hl2
  have rQ:=(Below.refl _ wr).drew.trans mV
  have HS:=znq (HS.znr.drew.later mV)
  have HO0:=znq (zm HO0.znr rQ)
  have HO1:=znq (zm HO1.znr rQ)
  have HL0:=znq (HL0.znr.below rQ)
  clear hown2 hl2 rQ
  go_simp
  refine hK _ _ mV ?_
  clear hK K mV
  refine zi rfl rfl (by rfl) (fun K hK=>?_)
  go_simp
  refine (j1 a0 a2 n n c0 c2 p.1 s _ HT1.znr HSL.znr (by omega) (by omega) HL0.znr HL2.znr).mono ?_
  rintro e w3 ⟨v3,rfl,hown3,mY⟩
  rw [mq] at hown3
  obtain ⟨a3,c3,rfl,_,_,_⟩:=zw hown3
  have hw2:=HS.znr.size
  have HO3:=znq (yi hown3 hw2)
  have HS:=znq (HS.znr.later mY)
  have HO1:=znq (zm HO1.znr mY)
  clear hown3 HL0 HL1 HL2 HO0
  simp only [id]
  go_simp
  refine hK _ _ mY ?_
  clear hK K mY
  refine zp rfl rfl (by rfl) (fun K hK=>?_)
  refine (HS.znr.get 0 rfl).nO (v:=.slice a1 n c1) rfl rfl rfl jQ rfl rfl (by simp) (fun w4 hb4 ho4=>hK _ _ ?_)
  clear hK K
  have HO1:=znq (zu HO1.znr (HS.znr.get 0 rfl) HTY.znr ho4)
  have HO3:=znq (zu HO3.znr (HS.znr.get 0 rfl) HTY.znr ho4)
  have HS:=znq (show St w bb w4 [(bt,[.slice a1 n c1,.slice a1 n c1],338),(bh,h.map B,59)] from HS.znr.change 0 hb4 ho4 (by omega) (by simp;omega))
  clear hb4 ho4
  go_simp
  refine m1R ?_
  refine zp rfl rfl (by rfl) (fun K hK=>?_)
  refine (HS.znr.get 0 rfl).nO (v:=.slice a3 n c3) rfl rfl rfl jQ rfl rfl (by simp) (fun w5 hb5 ho5=>hK _ _ ?_)
  clear hK K
  have HO1:=znq (zu HO1.znr (HS.znr.get 0 rfl) HTY.znr ho5)
  have HO3:=znq (zu HO3.znr (HS.znr.get 0 rfl) HTY.znr ho5)
  have HS:=znq (show St w bb w5 [(bt,[.slice a1 n c1,.slice a3 n c3],338),(bh,h.map B,59)] from HS.znr.change 0 hb5 ho5 (by omega) (by simp;omega))
  clear hb5 ho5
  go_simp
  refine zo ?_
  obtain ⟨x1,hx1⟩:∃ x1,x1=nX p.1 s:=⟨_,rfl⟩
  have HXE:=znq (show nX p.1 s=x1∧True from ⟨hx1.symm,trivial⟩)
  rw [HXE.znr.1] at HO3 HSW
  have HT3:=znq (show Two n (p.2,x1) from by
   have:=HTW.znr.swap (k:=k) (h:=h) (i:=qx n) (j:=j) h31
   rwa [HSW.znr.1] at this)
  clear hx1
  by_cases hlast:0 < j
  ·obtain ⟨j2,hj2⟩:∃ j2,j=j2+1:=⟨j - 1,by omega⟩
   subst hj2
   have dd0:((j2+1:Nat):Int)+-1=(j2:Int):=by omega
   have dd3:((j2:Int)+1)+-1=(j2:Int):=by omega
   have dd1:decide ((j2:Int)≥0)=true:=by simp
   have hd:decide ((j2:Int) < (yj n:Int))=true:=by simp;omega
   have HG':=znq (show ja k h (qx n) (j2+1) (p.2,x1)=ja k h (qx n) (yj n) (xE fm,yV fm)∧True from ⟨by rw [← HSW.znr.1,← HG.znr.1];rfl,trivial⟩)
   go_wp2_with fail
   refine (ZJ n _ h1 h31).mono ?_
   rintro e w6 ⟨rfl,rfl⟩
   go_wp2_with fail
   refine wp_goto ?_
   exact ⟨rfl,YT.intro bh bt am cm j2 a1 a3 c1 c3 (p.2,x1) (by rfl) (by omega) hbh hbt hne HT3.znr HG'.znr.1 HS.znr HO1.znr HO3.znr,by simp [intOf]⟩
  ·obtain rfl:j=0:=by omega
   have HG':=znq (show (p.2,x1)=ja k h (qx n) (yj n) (xE fm,yV fm)∧True from ⟨by rw [← HSW.znr.1,← HG.znr.1];rfl,trivial⟩)
   have hc0:=(HS.znr.get 0 rfl).cell 0 _ rfl
   have hc1:=(HS.znr.get 0 rfl).cell 1 _ rfl
   have HL1:=znq (zr.nQ HO1.znr)
   have hsz:=HS.znr.size
   go_wp2_with (at_builtin;refine yD rfl (.tmp 71) (.tmp 73) 22 rfl bb 5 i0 (.int .u8 0) 1 Tryz.underlying22 HI.znr.1 HI.znr.2.1 HI.znr.2.2.1 HI.znr.2.2.2 rfl _ _ _ rfl HO3.znr a1 n c1 (p.2.map B) rfl (by rw [yf];exact HT2.znr) HL1.znr (j9 _) (by unfold maxLen;omega) (by omega) hsz ?_)
   intro v7 w7 rq hg7
   have ny:=z8 HS.znr.bel HO3.znr hg7 (xc _) hsz
   obtain ⟨a7,c7,rfl,_,_,hl7⟩:=zw rq
   have HL7:=znq (show zr w7 a7 ((x1++p.2).map B) by rw [uI];exact hl7)
   have HBE:=znq ny
   have HX1:=znq HT3.znr.2
   clear rq hg7 hl7 ny hc0 hc1
   go_wp2_with fail
   refine (zaa a7 (n+n) c7 (x1++p.2) _ (by rw [q8,HX1.znr,HT2.znr]) (by omega) HL7.znr).mono ?_
   rintro e w8 ⟨v8,rfl,p9,nG⟩
   rw [show (n+n+1) / 2=n by omega] at p9
   have p9:w8.ownsRow w7.heap.size 5 1 v8 n ((Yo (p.2,x1)).map B):=p9
   rw [HG'.znr.1] at p9
   have zfY:bb≤w7.heap.size:=by rw [← HBB.znr];exact HBE.znr.size
   have HOWN:=znq (yi p9 zfY)
   have HBE:=znq (HBE.znr.trans (nG.mono zfY))
   simp only [id]
   clear p9 nG
   go_wp2
   rw [Exit.nZ]
   go_ret2
   exact ⟨_,rfl,by rw [HBB.znr];exact HOWN.znr,by rw [HBB.znr];exact HBE.znr⟩
end Go.Proofs.YtamdifhibogdiaaGreatDoor
namespace Go.Mem
def zin (l:List Str):List UInt8:=(l.map (·.bs)).flatten
theorem Wi (l:List Str) (s:Str):zin (l++[s])=zin l++s.bs:=by simp [zin]
theorem Qd (l:List Str) (i:Nat):(zin (l.take i)).length≤(zin l).length:=by
 conv=>rhs;rw [← List.take_append_drop i l]
 unfold zin
 rw [uI,List.flatten_append,q8]
 omega
end Go.Mem
namespace Go.Proofs.YtamdifhibogdiaaGreatDoor
open RowKit Mem Ops Cells Oct Gf Trn Aes Ring Ezk Ezh Ezt ru Fl
attribute [local irreducible] zE zN zO zM yu
theorem wpList_append_run {P:Program} {w:World} {ops:Array Oper} {rest:List Oper} {o:Oper} {a:Act} {Q:Exit→Act→World→Prop} (hgd:o.guard=none) (s x:Operand) (t tn:TypeId)
  (ho:o.op=.call { callee:=.builtin .append,args:=#[s,x],argTypes:=#[t,tn] }) (vs vx:Value) (hs:a.eval s=vs) (hx:a.eval x=vx) (v':Value) (w':World) (hrun:(Builtin.append_ #[t,tn] o.type #[vs,vx]).run P w=.ok v' w')
  (h:wpList P ops Q rest (a.put o.dst v') w'):wpList P ops Q (o::rest) a w:=wpList_plain hgd fun K hK=>by
 unfold Oper.wp
 simp [execOp,ho,resolve,invoke,builtin,hs,hx,hrun,Result.andThen]
 exact hK _ _ h
theorem zmi (n:Nat) (w:World) (hn:n≤1000000):Calls Tryz.prog 146 #[.slice none 0 0,.int .i64 n] w fun e w'=>∃ v,e=.returned v∧w'.ownsRow w.heap.size 5 1 v 0 []∧Below w.heap.size w w':=by
 obtain ⟨i0,hi,hz0,hz1,hz2⟩:=info_parts qR
 by_cases h0:n=0
 ·subst h0
  clear hi hz0 hz1 hz2
  go_enter Tryz.func146,Tryz.ntmps146
  go_wp2
  go_ret
  exact ⟨_,rfl,vL _ _ _ _,Below.refl _ _⟩
 ·have hrz:∀ (w:World) ty,(Builtin.append_ #[22,3] ty #[.slice none 0 0,.int .i64 (n:Int)]).run Tryz.prog w=.ok (.slice (some ⟨w.heap.size,0,none⟩) (0+n) (grownCap w (0+n) 0 5))
    (w.drew.alloc (.cells (([]:List Value).toArray++Builtin.zeroCells (Value.int .u8 0).cells n++Builtin.zeroCells (Value.int .u8 0).cells (grownCap w (0+n) 0 5 - (0+n))) 5)):=fun w ty =>
   Lib.run_append_grow_zeros w 22 3 ty 5 i0 (.int .u8 0) .i64 .i64 Tryz.underlying22 Tryz.underlying3 hi hz0 none 0 0 [] (by simpa using run_firstCells_none (P:=Tryz.prog) w.drew i0.size 0 0 0) n (by omega) (by omega) (by omega) (by omega) (by rw [hz2];omega) (growslice_fits (by omega) (by rw [hz2];omega))
  have hge:=grownCap_ge w (0+n) 0 5
  have hle:=grownCap_le_maxLen w (0+n) 0 5 (by unfold maxLen;omega)
  have zkB:=hrz w 22
  obtain ⟨G,hG⟩:∃ G,G=grownCap w (0+n) 0 5:=⟨_,rfl⟩
  rw [← hG] at hge hle zkB
  obtain ⟨A,hA⟩:∃ A:List Value,A=(([]:List Value).toArray++Builtin.zeroCells (Value.int .u8 0).cells n++Builtin.zeroCells (Value.int .u8 0).cells (G - (0+n))).toList:=⟨_,rfl⟩
  have hAl:A.length=G:=by rw [hA];simp [Builtin.zeroCells,Value.cells];omega
  rw [show (([]:List Value).toArray++Builtin.zeroCells (Value.int .u8 0).cells n++Builtin.zeroCells (Value.int .u8 0).cells (G - (0+n)))=A.toArray by rw [hA],Nat.zero_add] at zkB
  have HAL:=znq hAl
  have HLE:=znq hle
  clear hrz hG hA hAl hle hi hz0 hz1 hz2
  go_enter Tryz.func146,Tryz.ntmps146
  go_wp2_with (at_builtin;refine wpList_append_run rfl (.tmp 20) (.tmp 21) 22 3 rfl _ _ rfl rfl _ _ zkB ?_)
  go_wp2
  go_ret
  refine ⟨_,rfl,?_,(Below.refl _ _).drew.alloc (xc _) _⟩
  have:=Jz (n:=0) (Blk.new w.drew A 5) (xc _) (Nat.zero_le G) HLE.znr HAL.znr
  rw [List.take_zero] at this
  exact this
theorem YU (ao:Option Addr) (n cap:Nat) (ss:List Str) (w:World) (hn:ss.length=n) (hb:n≤1000) (hs:xY w ao ss) (ht:(zin ss).length≤1000000) :
  Calls Tryz.prog 97 #[.slice ao n cap] w fun e w'=>∃ v,e=.returned v∧w'.ownsRow w.heap.size 5 1 v (zin ss).length ((zin ss).map B)∧Below w.heap.size w w':=by
 obtain ⟨i0,hi,hz0,hz1,hz2⟩:=info_parts qR
 have HI:=znq (And.intro hi (And.intro hz0 (And.intro hz1 hz2)))
 have HN:=znq hn
 have HS:=znq hs
 have HT:=znq ht
 clear hn hs hi hz0 hz1 hz2
 go_enter Tryz.func97,Tryz.ntmps97
 go_wp2
 go_loopw [3,11] (fun z c wr=>∃ i:Nat,i≤n∧c=.int .i64 i∧z=.int .i64 ((zin (ss.take i)).length:Int)∧w=wr) (fun _ c _=>n - (intOf c).toNat)
 case atStart=>exact ⟨0,by omega,rfl,by simp [zin],rfl⟩
 case round =>
  obtain ⟨i,hi,rfl,rfl,rfl⟩:=hrel
  by_cases hlt:i < n
  ·obtain ⟨s,hsi⟩:∃ s,ss[i]? = some s:=⟨ss[i]'(by rw [HN.znr];exact hlt),by simp⟩
   obtain ⟨b,off,rfl,hc⟩:=HS.znr.lies i s.val (by rw [uV,hsi];rfl)
   unfold Str.val at hc
   have hstep:(zin (ss.take (i+1))).length=(zin (ss.take i)).length+s.bs.length:=by rw [fA,hsi,show (some s).toList=[s] from rfl,Wi,q8]
   have hle:=Qd ss (i+1)
   obtain ⟨z0,hz0⟩:∃ z0,z0=(zin (ss.take i)).length:=⟨_,rfl⟩
   obtain ⟨z1,hz1⟩:∃ z1,z1=(zin (ss.take (i+1))).length:=⟨_,rfl⟩
   have HZ1:=znq (show z1=(zin (ss.take (i+1))).length∧True from ⟨hz1,trivial⟩)
   rw [← hz0,← hz1] at hstep
   rw [← hz1] at hle
   have hz1b:z1≤1000000:=by omega
   have e1:(z0:Int)+(s.bs.length:Int)=(z1:Int):=by omega
   rw [← hz0]
   obtain ⟨sl,hsl⟩:∃ sl,sl=s.bs.length:=⟨_,rfl⟩
   rw [← hsl] at hc e1
   clear hsi hstep hle hz0 hz1 hsl
   go_wp2
   go_roundw
   case rel=>exact ⟨i+1,by omega,by go_num,by rw [← HZ1.znr.1],by trivial⟩
   case measure=>simp [intOf];omega
  ·obtain rfl:n=i:=by omega
   rw [Y2 (by rw [HN.znr];exact xc _)]
   obtain ⟨z,hz⟩:∃ z,z=(zin ss).length:=⟨_,rfl⟩
   have HZ:=znq (show (zin ss).length=z∧True from ⟨hz.symm,trivial⟩)
   have hzb:z≤1000000:=by omega
   rw [← hz]
   clear hz
   go_wp2_with fail
   refine (zmi z _ hzb).mono ?_
   rintro e w2 ⟨v2,rfl,hown2,mV⟩
   have HOWN:=znq hown2
   have HB:=znq mV
   clear hown2 mV
   go_wp2
   go_loopw [6,27] (fun v c wr=>∃ i:Nat,i≤n∧c=.int .i64 i∧Hid (wr.ownsRow w.heap.size 5 1 v (zin (ss.take i)).length ((zin (ss.take i)).map B))∧Hid (Below w.heap.size w wr)) (fun _ c _=>n - (intOf c).toNat)
   case atStart=>exact ⟨0,by omega,rfl,znq (by have:=HOWN.znr;simpa [zin] using this),HB⟩
   case round =>
    clear HOWN HB
    obtain ⟨i,hi,rfl,HOWN,HB⟩:=hrel
    by_cases hlt2:i < n
    ·obtain ⟨s,hsi⟩:∃ s,ss[i]? = some s:=⟨ss[i]'(by rw [HN.znr];exact hlt2),by simp⟩
     obtain ⟨b,off,rfl,hc⟩:=(HS.znr.below HB.znr).lies i s.val (by rw [uV,hsi];rfl)
     unfold Str.val at hc
     have HSL:=znq (((HS.znr.below HB.znr).each s (List.mem_of_getElem? hsi)).lies)
     have HSB:=znq (show zin (ss.take (i+1))=zin (ss.take i)++s.bs∧True from ⟨by rw [fA,hsi,show (some s).toList=[s] from rfl,Wi],trivial⟩)
     have hle:=Qd ss (i+1)
     have hle2:(zin (ss.take i)).length+s.bs.length≤1000000:=by rw [HSB.znr.1,q8] at hle;omega
     clear hsi hle
     go_wp2_with (at_builtin;refine yD rfl (.tmp 31) (.tmp 32) 22 rfl w.heap.size 5 i0 (.int .u8 0) 1 Tryz.underlying22 HI.znr.1 HI.znr.2.1 HI.znr.2.2.1 HI.znr.2.2.2 rfl _ _ _ rfl HOWN.znr s.a s.bs.length s.cap (s.bs.map B) rfl (by rw [yf]) HSL.znr (j9 _) (by unfold maxLen;omega) (by omega) HB.znr.size ?_)
     intro v5 w5 hown5 hg5
     have HB5:=znq (z8 HB.znr HOWN.znr hg5 (xc _) HB.znr.size)
     have HO5:=znq (show w5.ownsRow w.heap.size 5 1 v5 (zin (ss.take (i+1))).length ((zin (ss.take (i+1))).map B) by rw [HSB.znr.1,q8,uI];exact hown5)
     clear hown5 hg5
     go_wp2
     go_roundw
     case rel=>exact ⟨i+1,by omega,by go_num,HO5,HB5⟩
     case measure=>simp [intOf];omega
    ·obtain rfl:i=n:=by omega
     rw [Y2 (by rw [HN.znr];exact xc _)] at HOWN
     go_wp2
     go_ret
     exact ⟨_,rfl,HOWN.znr,HB.znr⟩
end Go.Proofs.YtamdifhibogdiaaGreatDoor
