/-
  Texts of this claim, one behind the other.
-/
import Derived.Test.YtamdifhibogdiaaGreatDoorX1
import Derived.Test.YtamdifhibogdiaaGreatDoorX6
import Derived.Test.YtamdifhibogdiaaGreatDoorX4
import Derived.Test.YtamdifhibogdiaaGreatDoorX3
import Derived.Lib.Hide
set_option linter.unusedVariables false
set_option linter.unusedSimpArgs false
set_option maxHeartbeats 16000000
set_option maxRecDepth 100000
open List renaming drop→dX,drop_append→bK,drop_eq_nil_of_le→Yx,ext_getElem?→uA,getD→bT,getElem?_eq_none→qc,getElem?_set_ne→uH,getElem?_set_self→uW,length_append→q8,length_drop→XQ,length_map→yf,length_set→Vo,length_take→Ku,mem_map→ug,range→uf,replicate→wh,replicate_succ→lh,take_of_length_le→Y2
open Nat renaming le_refl→xc
open UInt64 renaming ofNat→wF
open UInt8 renaming ofNat→VW,ofNat_toNat→uO,toNat_lt→lZ
namespace Go.Ezk
open Ops Oct Gf Trn Aes Ring
structure zv where
 i:List UInt8
 j:List UInt8
 l:List UInt8
def zaM (k:zv) (n:Nat):List UInt8:=if n=0 then k.i else if n=1 then k.j else k.l
def zfO (i:Nat):Nat:=i / 8+min (i % 8) 1
def offset (k:zv) (j i:Nat):List UInt8:=[pF (zfO i) k.i,multiple (wF (i % 8)) k.l].foldl both (multiple (wF j) k.j)
def pM (k:zv) (j i:Nat) (x:List UInt8):List UInt8:=rounds (both x (offset k j i)) [k.j,k.i,k.l,zf 16]
def rP (k:zv) (n:Nat):List (List UInt8):=(uf n).map fun m=>zaM k (m % 3)
def zrg (k:zv) (i:Nat) (x:List UInt8):List UInt8:=rounds (both x (multiple (wF i) k.l)) (rP k 10)
structure zv.Fit (k:zv):Prop where
 li:k.i.length=16
 lj:k.j.length=16
 ll:k.l.length=16
theorem X1 {k:zv} (h:k.Fit) (n:Nat):(zaM k n).length=16:=by
 unfold zaM
 split
 ·exact h.li
 ·split
  ·exact h.lj
  ·exact h.ll
theorem Y9 (k:zv) (j i:Nat):(offset k j i).length=16:=by
 simp only [offset,List.foldl_cons,List.foldl_nil]
 exact zB _ _
theorem yo (k:zv) (j i:Nat) (x:List UInt8):(pM k j i x).length=16:=qG _ _ (zB _ _)
theorem yM (k:zv) (i:Nat) (x:List UInt8):(zrg k i x).length=16:=qG _ _ (zB _ _)
theorem zed (k:zv) (n:Nat):rP k (n+1)=rP k n++[zaM k (n % 3)]:=by simp [rP,List.range_succ]
theorem WS (k:zv) (n:Nat):(rP k n).length=n:=by simp [rP]
theorem zee {k:zv} (h:k.Fit) (n:Nat):∀ x∈rP k n,x.length=16:=by
 intro x hx
 simp only [rP,ug] at hx
 obtain ⟨m,_,rfl⟩:=hx
 exact X1 h _
end Go.Ezk
namespace Go.Proofs.YtamdifhibogdiaaGreatDoor
open RowKit Mem Ops Cells Oct Gf Trn Aes Ring Ezk
attribute [local irreducible] zE zN zO zM yu
structure xH (w:World) (kp q p:Nat) (k:zv):Prop where
 tab:Tab w q p
 fit:k.Fit
 blk:Blk w kp (.pointer (some ⟨q,0,none⟩)::(k.i++k.j++k.l).map B) 271
theorem xH.later {w w':World} {kp q p:Nat} {k:zv} (h:xH w kp q p k) (hb:Below w.heap.size w w'):xH w' kp q p k:=⟨h.tab.below hb (xc _),h.fit,h.blk.below hb h.blk.lt⟩
theorem xH.drew {w:World} {kp q p:Nat} {k:zv} (h:xH w kp q p k):xH w.drew kp q p k:=h.later (Below.refl _ _).drew
theorem xH.only {w w':World} {kp q p c:Nat} {k:zv} (h:xH w kp q p k) (ho:Only c w w') (h1:kp≠c) (h2:q≠c) (h3:p≠c):xH w' kp q p k:=⟨h.tab.only ho h3 h2,h.fit,h.blk.only ho h1⟩
theorem xH.base {w0 w w':World} {kp q p:Nat} {k:zv} (h:xH w0 kp q p k) (hb:Below w0.heap.size w0 w):xH w kp q p k:=h.later hb
theorem xH.ri {w:World} {kp q p:Nat} {k:zv} (h:xH w kp q p k):w.rangeAt kp 1 (k.i.map B):=Blk.nA h.blk 1 16 _ (by simp [h.fit.li])
theorem xH.rj {w:World} {kp q p:Nat} {k:zv} (h:xH w kp q p k):w.rangeAt kp 17 (k.j.map B):=Blk.nA h.blk 17 16 _ (by simp [h.fit.li,h.fit.lj,bK])
theorem xH.rl {w:World} {kp q p:Nat} {k:zv} (h:xH w kp q p k):w.rangeAt kp 33 (k.l.map B):=Blk.nA h.blk 33 16 _ (by
 have h1:dX 32 (k.i.map B)=[]:=Yx (by simp [h.fit.li])
 simp [h.fit.li,h.fit.lj,h.fit.ll,bK,h1]
 exact Y2 (by simp [h.fit.ll]))
theorem xH.c0 {w:World} {kp q p:Nat} {k:zv} (h:xH w kp q p k):w.cell? ⟨kp,0,none⟩=some (.pointer (some ⟨q,0,none⟩)):=h.blk.cell 0 _ rfl
theorem zl7 (kp q p n:Nat) (k:zv) (w:World) (hk:xH w kp q p k) (hn:n < 3) :
  Calls Tryz.prog 249 #[.pointer (some ⟨kp,0,none⟩),.int .i64 n] w fun e w'=>e=.returned (.agg ((zaM k n).map B).toArray)∧Below w.heap.size w w':=by
 have HK:=znq hk
 have HS:=znq (St.start w)
 have HI:=znq (show (k.i.map B).length=16 by rw [yf];exact hk.fit.li)
 have HJ:=znq (show (k.j.map B).length=16 by rw [yf];exact hk.fit.lj)
 have HL:=znq (show (k.l.map B).length=16 by rw [yf];exact hk.fit.ll)
 clear hk
 go_enter Tryz.func249,Tryz.ntmps249
 go_wp2_with (refine ze 59 ((zf 16).map B) _ rfl rfl zj rfl ?_)
 intro w2 hb hbel;have HS:=znq (HS.znr.push hb hbel);have HK:=znq (HK.znr.later hbel);have hlt2:=hb.lt;clear hb hbel
 generalize hbb:w.heap.size=bb at *
 have HBB:=znq hbb
 clear hbb
 obtain rfl | rfl | rfl:n=0∨n=1∨n=2:=by omega
 ·go_wp2_with (first | (refine wpList_load_mid rfl 59 (.tmp 13) rfl kp 1 rfl _ _ HK.znr.ri Tryz.underlying59 rfl (by rw [HI.znr];exact zc.2) ?_) | (refine (HS.znr.get 0 rfl).mM rfl rfl rfl rfl zc (by rw [yf];exact zd 16) HI.znr (zg _) ?_))
  intro w6 hb6 ho6
  have mQ:=zk HS.znr.bel ho6 (by omega)
  go_wp2
  refine hb6.result rfl rfl rfl zc HI.znr ⟨rfl,?_⟩
  rw [HBB.znr]
  exact mQ
 ·go_wp2_with (first | (refine wpList_load_mid rfl 59 (.tmp 20) rfl kp 17 rfl _ _ HK.znr.rj Tryz.underlying59 rfl (by rw [HJ.znr];exact zc.2) ?_) | (refine (HS.znr.get 0 rfl).mM rfl rfl rfl rfl zc (by rw [yf];exact zd 16) HJ.znr (zg _) ?_))
  intro w6 hb6 ho6
  have mQ:=zk HS.znr.bel ho6 (by omega)
  go_wp2
  refine hb6.result rfl rfl rfl zc HJ.znr ⟨rfl,?_⟩
  rw [HBB.znr]
  exact mQ
 ·go_wp2_with (first | (refine wpList_load_mid rfl 59 (.tmp 27) rfl kp 33 rfl _ _ HK.znr.rl Tryz.underlying59 rfl (by rw [HL.znr];exact zc.2) ?_) | (refine (HS.znr.get 0 rfl).mM rfl rfl rfl rfl zc (by rw [yf];exact zd 16) HL.znr (zg _) ?_))
  intro w6 hb6 ho6
  have mQ:=zk HS.znr.bel ho6 (by omega)
  go_wp2
  refine hb6.result rfl rfl rfl zc HL.znr ⟨rfl,?_⟩
  rw [HBB.znr]
  exact mQ
theorem zgu (kp q p j i:Nat) (k:zv) (w:World) (hk:xH w kp q p k) (hj:j≤1000) (hi:i≤1000) :
  Calls Tryz.prog 248 #[.pointer (some ⟨kp,0,none⟩),.int .i64 j,.int .i64 i] w fun e w'=>e=.returned (.agg ((offset k j i).map B).toArray)∧Below w.heap.size w w':=by
 have HK:=znq hk
 have hkl:=hk.blk.lt
 have HS:=znq (St.start w)
 have HFI:=znq hk.fit.li
 have HFJ:=znq hk.fit.lj
 have HFL:=znq hk.fit.ll
 have HI:=znq (show (k.i.map B).length=16 by rw [yf];exact hk.fit.li)
 have HJ:=znq (show (k.j.map B).length=16 by rw [yf];exact hk.fit.lj)
 have HL:=znq (show (k.l.map B).length=16 by rw [yf];exact hk.fit.ll)
 have HU:=znq (show zfO i < 128 by unfold zfO;omega)
 obtain ⟨m,hm⟩:∃ m,m=i % 8:=⟨_,rfl⟩
 obtain ⟨m1,hm1⟩:∃ m1,m1=min m 1:=⟨_,rfl⟩
 obtain ⟨u,hu⟩:∃ u,u=zfO i:=⟨_,rfl⟩
 have hmin:(if (1:Int) < (m:Int) then (1:Int) else (m:Int))=(m1:Int):=by rw [hm1];split <;> omega
 have hr:(i:Int) % 8=(m:Int):=by omega
 have hs:(i:Int) / 8+(m1:Int)=(u:Int):=by rw [hu,hm1,hm];unfold zfO;omega
 have HO:=znq (show offset k j i=[pF u k.i,multiple (wF m) k.l].foldl both (multiple (wF j) k.j) by rw [hu,hm];rfl)
 have hm8:m < 8:=by omega
 have hm2:m1≤1:=by omega
 have HU:=znq (show u < 128 by rw [hu];exact HU.znr)
 clear hm hm1 hu
 have hd1:decide ((j:Int) < 0)=false:=by simp
 have hd2:decide ((i:Int) < 0)=false:=by simp
 clear hk
 go_enter Tryz.func248,Tryz.ntmps248
 go_wp2_with (refine ze 59 ((zf 16).map B) _ rfl rfl zj rfl ?_)
 intro w2 hb hbel;have HS:=znq (HS.znr.push hb hbel);have HK:=znq (HK.znr.later hbel);have hlt2:=hb.lt;clear hb hbel
 generalize hbb:w.heap.size=bb at *
 have HBB:=znq hbb
 clear hbb
 go_wp2_with fail
 refine zn [0,1,2,3,4,5,7,8,9,10,11,13,14,15,16,17,18,19,6,12,20,21,22,23] (by kernel_rfl) (by kernel_rfl) ?_
 rintro w4 rfl
 iterate 5 refine m1R ?_
 refine zt HK.znr.drew.rj HK.znr.drew.blk.lt zc HJ.znr rfl rfl rfl rfl (fun K hK=>?_)
 go_simp;refine hK _ ?_;clear hK K
 iterate 4 refine m1R ?_
 refine zt HK.znr.drew.ri HK.znr.drew.blk.lt zc HI.znr rfl rfl rfl rfl (fun K hK=>?_)
 go_simp;refine hK _ ?_;clear hK K
 iterate 6 refine m1R ?_
 refine zt HK.znr.drew.rl HK.znr.drew.blk.lt zc HL.znr rfl rfl rfl rfl (fun K hK=>?_)
 go_simp;refine hK _ ?_;clear hK K
 refine zi rfl rfl (by rfl) (fun K hK=>?_)
 go_simp
 rw [show (Value.int .u64 (j:Int))=L (wF j) by simp [L];omega]
 refine (Yj (wF j) k.j _ HFJ.znr).mono ?_
 rintro e w5 ⟨rfl,mX⟩
 have HS:=znq (HS.znr.drew.later mX)
 have H1:=znq (j0 (wF j) k.j)
 generalize multiple (wF j) k.j=y1 at *
 go_simp
 refine hK _ _ mX ?_
 clear hK K mX
 refine zi rfl rfl (by rfl) (fun K hK=>?_)
 go_simp
 refine (zgt u k.i _ HFI.znr HU.znr).mono ?_
 rintro e w6 ⟨rfl,mQ⟩
 have HS:=znq (HS.znr.later mQ)
 have H2:=znq (vI u k.i HFI.znr)
 generalize pF u k.i=y2 at *
 go_simp
 refine hK _ _ mQ ?_
 clear hK K mQ
 refine zi rfl rfl (by rfl) (fun K hK=>?_)
 go_simp
 rw [show (Value.int .u64 (m:Int))=L (wF m) by simp [L];omega]
 refine (Yj (wF m) k.l _ HFL.znr).mono ?_
 rintro e w7 ⟨rfl,ny⟩
 have HS:=znq (HS.znr.later ny)
 have H3:=znq (j0 (wF m) k.l)
 generalize multiple (wF m) k.l=y3 at *
 go_simp
 refine hK _ _ ny ?_
 clear hK K ny
 refine zi rfl rfl (by rfl) (fun K hK=>?_)
 refine y8 299 59 16 2 _ [y2.map B,y3.map B] rfl rfl Tryz.underlying299 zF rfl (by omega) rfl (by omega) (by omega) (by simp [H2.znr,H3.znr]) ?_
 intro w8 hb8 nG
 have HS:=znq (HS.znr.later nG)
 refine hK _ _ nG ?_
 clear hK K nG
 have HB8:=znq (show yB 16 w8 (some ⟨w7.heap.size,0,none⟩) [y2,y3] from ⟨by simp [H2.znr,H3.znr],by have:=hb8.lies;simpa using this⟩)
 clear hb8
 go_simp
 refine zi rfl rfl (by rfl) (fun K hK=>?_)
 go_simp
 refine (QL y1 (some ⟨w7.heap.size,0,none⟩) 2 2 [y2,y3] _ H1.znr rfl (by omega) HB8.znr).mono ?_
 rintro e w9 ⟨rfl,nM⟩
 have HS:=znq (HS.znr.later nM)
 rw [← HO.znr]
 have HOL:=znq (show ((offset k j i).map B).length=16 by rw [yf];exact Y9 _ _ _)
 go_simp
 refine hK _ _ nM ?_
 clear hK K nM
 refine zp rfl rfl (by rfl) (fun K hK=>?_)
 refine (HS.znr.get 0 rfl).mZ rfl rfl rfl zc (by rw [yf];exact zd 16) HOL.znr (zg _) (fun w10 sD rH=>hK _ _ ?_)
 clear hK K
 have nE:=zk HS.znr.bel rH (by omega)
 go_simp
 refine zo ?_
 go_wp2
 refine sD.result rfl rfl rfl zc HOL.znr ⟨rfl,?_⟩
 rw [HBB.znr]
 exact nE
end Go.Proofs.YtamdifhibogdiaaGreatDoor
namespace Go
open RowKit Cells
def zH.rows (i:Nat) (d:Tmp) (e:TypeId) (m:Nat) (vs:List (List Value)):zH:=⟨i,d,.cells vs.flatten.toArray e,fun n=>.slice (some ⟨n,0,none⟩) m m⟩
@[go_sem,simp] theorem ziD (i:Nat) (d:Tmp) (e:TypeId) (m:Nat) (vs:List (List Value)):(zH.rows i d e m vs).dst=d:=rfl
@[go_sem,simp] theorem ziE (i:Nat) (d:Tmp) (e:TypeId) (m:Nat) (vs:List (List Value)) (n:Nat):(zH.rows i d e m vs).val n=.slice (some ⟨n,0,none⟩) m m:=rfl
@[go_sem,simp] theorem ziF (i:Nat) (d:Tmp) (e:TypeId) (m:Nat) (vs:List (List Value)):(zH.rows i d e m vs).obj=.cells vs.flatten.toArray e:=rfl
theorem zgv {P:Program} {ops:Array Oper} {a:Act} {w:World} (i:Nat) (d:Tmp) (t e:TypeId) (n m:Nat) (z:Value) (vs:List (List Value)) {parts:Array (Nat×Operand)} (o:Oper) (ho:ops[i]? = some o) (hop:o.op=.buildSlice t m parts) (hd:o.dst=some d) (hg:o.guard=none) (hsz:d < a.tmps.size)
  (hp':(parts.toList.map fun p=>(p.1,a.eval p.2))=(vs.zipIdx 0).map fun p=>(p.2,Value.agg p.1.toArray)) (ht:P.underlying t=some (.slice e)) (hs:(P.info? e).map (fun i=>(i.zero,i.size))=some (some z,n)) (hz:z.cells.size=n)
  (hn:0 < n) (hm:vs.length=m) (hm0:0 < m) (hb:m*n≤16777216) (hv:∀ v∈vs,v.length=n):(zH.rows i d e m vs).Fits P ops a w:=by
 refine ⟨hsz,o,ho,hd,hg,by simp [hop],fun w' _=>?_⟩
 have hp:(parts.map fun (i,x)=>(i,a.eval x))=((vs.zipIdx 0).map fun p=>(p.2,Value.agg p.1.toArray)).toArray:=by
  apply Array.toList_inj.1
  rw [Array.toList_map]
  exact hp'
 have hrun:=wL (P:=P) w' t e n m z vs _ ht hs hz hn hm hm0 hb hv hp
 unfold execOp
 simp only [hop,Sem.run_bind,hrun,Result.andThen_ok,Sem.run_pure]
 rfl
end Go
namespace Go.Proofs.YtamdifhibogdiaaGreatDoor
open RowKit Mem Ops Cells Oct Gf Trn Aes Ring Ezk
attribute [local irreducible] zE zN zO zM yu
theorem YZ (kp q p j i:Nat) (k:zv) (x:List UInt8) (w:World) (hk:xH w kp q p k) (hj:j≤1000) (hi:i≤1000) (hx:x.length=16) :
  Calls Tryz.prog 210 #[.pointer (some ⟨kp,0,none⟩),.int .i64 j,.int .i64 i,.agg (x.map B).toArray] w fun e w'=>e=.returned (.agg ((pM k j i x).map B).toArray)∧Below w.heap.size w w':=by
 have HK:=znq hk
 have hkl:=hk.blk.lt
 have HS:=znq (St.start w)
 have HFI:=znq hk.fit.li
 have HFJ:=znq hk.fit.lj
 have HFL:=znq hk.fit.ll
 have HI:=znq (show (k.i.map B).length=16 by rw [yf];exact hk.fit.li)
 have HJ:=znq (show (k.j.map B).length=16 by rw [yf];exact hk.fit.lj)
 have HL:=znq (show (k.l.map B).length=16 by rw [yf];exact hk.fit.ll)
 have HX:=znq hx
 have HXM:=znq (show (x.map B).length=16 by rw [yf];exact hx)
 have hd1:decide ((j:Int) < -1)=false:=by simp
 have hd2:decide ((i:Int) < 0)=false:=by simp
 have hd3:decide ((j:Int)≥0)=true:=by simp
 have hd4:decide ((0:Int)≤(j:Int))=true:=by simp
 have HE:=znq (show pM k j i x=rounds ([offset k j i].foldl both x) [k.j,k.i,k.l,zf 16] from rfl)
 clear hk hx
 go_enter Tryz.func210,Tryz.ntmps210
 go_wp2_with (refine zh 59 _ (x.map B) _ rfl rfl rfl rfl ?_)
 intro w1 hb hbel;have HS:=znq (HS.znr.push hb hbel);have HK:=znq (HK.znr.later hbel);have hlt1:=hb.lt;clear hb hbel
 go_wp2_with (refine ze 59 ((zf 16).map B) _ rfl rfl zj rfl ?_)
 intro w2 hb hbel;have HS:=znq (HS.znr.push hb hbel);have HK:=znq (HK.znr.later hbel);have hlt2:=hb.lt;clear hb hbel
 generalize hbb:w.heap.size=bb at *
 generalize w1.heap.size=br at *
 have HBB:=znq hbb
 clear hbb
 have hc0:=fun (x:zG w2.drew)=>(HK.znr.drew.later x.later).c0
 go_wp2_with fail
 refine yn [0,1,2,3,4,5,6,7,11,12,13,14,15,16,17,18,19,20,21,22,23] [8,9,10] [25,26] [zH.rows 24 48 59 4 [k.j.map B,k.i.map B,k.l.map B,(zf 16).map B]] (by kernel_rfl) (by kernel_rfl) ?_
 rintro w4 rfl
 iterate 4 refine m10 ?_
 refine zL (HS.znr.drew.get 1 rfl).range (HS.znr.drew.get 1 rfl).lt zc HXM.znr rfl rfl rfl (fun K hK=>?_)
 go_simp;refine hK _ ?_;clear hK K
 iterate 6 refine m10 ?_
 refine zL HK.znr.drew.rj HK.znr.drew.blk.lt zc HJ.znr rfl rfl rfl (fun K hK=>?_)
 go_simp;refine hK _ ?_;clear hK K
 iterate 3 refine m10 ?_
 refine zL HK.znr.drew.ri HK.znr.drew.blk.lt zc HI.znr rfl rfl rfl (fun K hK=>?_)
 go_simp;refine hK _ ?_;clear hK K
 iterate 3 refine m10 ?_
 refine zL HK.znr.drew.rl HK.znr.drew.blk.lt zc HL.znr rfl rfl rfl (fun K hK=>?_)
 go_simp;refine hK _ ?_;clear hK K
 refine mq0 ?_
 refine yK ⟨?_,?_,xc _⟩
 ·intro f hf
  simp only [List.mem_singleton] at hf
  subst hf
  refine zgv 24 48 299 59 16 4 _ _ _ rfl rfl rfl rfl (by simp) rfl Tryz.underlying299 zF rfl (by omega) rfl (by omega) (by omega) (by simp [HFI.znr,HFJ.znr,HFL.znr,zd])
 clear hc0
 refine zC rfl rfl (fun u w5 hl5 K hK=>?_)
 go_simp
 have HK:=znq (HK.znr.drew.later hl5)
 have HS:=znq (HS.znr.drew.later hl5)
 refine (zgu kp q p j i k _ HK.znr hj hi).mono ?_
 rintro e w6 ⟨rfl,mQ⟩
 have HK:=znq (HK.znr.later mQ)
 have HS:=znq (HS.znr.later mQ)
 have HOL:=znq (Y9 k j i)
 generalize offset k j i=y at *
 go_simp
 refine hK _ _ mQ ?_
 clear hK K mQ hl5
 refine zC rfl rfl (fun u w7 hl7 K hK=>?_)
 refine y8 299 59 16 1 _ [y.map B] rfl rfl Tryz.underlying299 zF rfl (by omega) rfl (by omega) (by omega) (by simp [HOL.znr]) ?_
 intro w8 hb8 nG
 have HK:=znq (HK.znr.later (hl7.trans nG))
 have HS:=znq (HS.znr.later (hl7.trans nG))
 refine hK _ _ nG ?_
 clear hK K nG hl7
 have HB8:=znq (show yB 16 w8 (some ⟨w7.heap.size,0,none⟩) [y] from ⟨by simp [HOL.znr],by have:=hb8.lies;simpa using this⟩)
 clear hb8
 go_simp
 refine zC rfl rfl (fun u w9 hl9 K hK=>?_)
 go_simp
 refine (QL x (some ⟨w7.heap.size,0,none⟩) 1 1 [y] _ HX.znr rfl (by omega) (HB8.znr.below hl9)).mono ?_
 rintro e w10 ⟨rfl,nE⟩
 have HK:=znq (HK.znr.later (hl9.trans nE))
 have HS:=znq (HS.znr.later (hl9.trans nE))
 have HYL:=znq (k8 [y] x HX.znr)
 generalize [y].foldl both x=z at *
 go_simp
 refine hK _ _ nE ?_
 clear hK K nE hl9
 refine yZ (fun n w11 zeP hn hbn=>?_)
 go_simp
 have HK:=znq (HK.znr.later zeP)
 have HS:=znq (HS.znr.later zeP)
 have hbn':Blk w11 n [k.j.map B,k.i.map B,k.l.map B,(zf 16).map B].flatten 59:=hbn
 have zjJ:=znq (show Yg w11 (some ⟨n,0,none⟩) [k.j,k.i,k.l,zf 16] from ⟨by simp [HFI.znr,HFJ.znr,HFL.znr,zd],by have:=hbn'.lies;simpa using this⟩)
 clear zeP hbn hbn'
 refine zi rfl rfl (by rfl) (fun K hK=>?_)
 go_simp
 refine (QI q p z (some ⟨n,0,none⟩) 4 4 [k.j,k.i,k.l,zf 16] _ HK.znr.tab HYL.znr rfl (by omega) zjJ.znr).mono ?_
 rintro e w12 ⟨rfl,rG⟩
 rw [← HE.znr]
 have HS:=znq (HS.znr.later rG)
 have HEL:=znq (show ((pM k j i x).map B).length=16 by rw [yf];exact yo _ _ _ _)
 go_simp
 refine hK _ _ rG ?_
 clear hK K rG
 refine zp rfl rfl (by rfl) (fun K hK=>?_)
 refine (HS.znr.get 0 rfl).mZ rfl rfl rfl zc (by rw [yf];exact zd 16) HEL.znr (zg _) (fun w13 zbA zaS=>hK _ _ ?_)
 clear hK K
 have sU:=zk HS.znr.bel zaS (by omega)
 go_simp
 refine zo ?_
 go_wp2
 refine zbA.result rfl rfl rfl zc HEL.znr ⟨rfl,?_⟩
 rw [HBB.znr]
 exact sU
theorem Yk (kp q p i:Nat) (k:zv) (x:List UInt8) (w:World) (hk:xH w kp q p k) (hi:i≤1000) (hx:x.length=16) :
  Calls Tryz.prog 210 #[.pointer (some ⟨kp,0,none⟩),.int .i64 (-1),.int .i64 i,.agg (x.map B).toArray] w fun e w'=>e=.returned (.agg ((zrg k i x).map B).toArray)∧Below w.heap.size w w':=by
 obtain ⟨i0,hi0,hz0,hz1,hz2⟩:=info_parts Yi
 have HI0:=znq (And.intro hi0 (And.intro hz0 (And.intro hz1 hz2)))
 have HFIT:=znq hk.fit
 have HK:=znq hk
 have hkl:=hk.blk.lt
 have HS:=znq (St.start w)
 have HFL:=znq hk.fit.ll
 have HL:=znq (show (k.l.map B).length=16 by rw [yf];exact hk.fit.ll)
 have HX:=znq hx
 have HXM:=znq (show (x.map B).length=16 by rw [yf];exact hx)
 have hd2:decide ((i:Int) < 0)=false:=by simp
 have HE:=znq (show zrg k i x=rounds ([multiple (wF i) k.l].foldl both x) (rP k 10) from rfl)
 clear hk hx hi0 hz0 hz1 hz2
 go_enter Tryz.func210,Tryz.ntmps210
 go_wp2_with (refine zh 59 _ (x.map B) _ rfl rfl rfl rfl ?_)
 intro w1 hb hbel;have HS:=znq (HS.znr.push hb hbel);have HK:=znq (HK.znr.later hbel);have hlt1:=hb.lt;clear hb hbel
 go_wp2_with (refine ze 59 ((zf 16).map B) _ rfl rfl zj rfl ?_)
 intro w2 hb hbel;have HS:=znq (HS.znr.push hb hbel);have HK:=znq (HK.znr.later hbel);have hlt2:=hb.lt;clear hb hbel
 generalize hbb:w.heap.size=bb at *
 generalize w1.heap.size=br at *
 have HBB:=znq hbb
 clear hbb
 go_wp2
 go_loopw [9,50] (fun v c wr=>∃ m:Nat,m≤10∧c=.int .i64 m∧Hid (wr.ownsRow w2.heap.size 59 16 v m (flat (rP k m)))∧Hid (Below w2.heap.size w2 wr)) (fun _ c _=>10 - (intOf c).toNat)
 case atStart=>exact ⟨0,by omega,rfl,vL _ _ _ _,Below.refl _ _⟩
 case round =>
  obtain ⟨m,hm,rfl,HV,HB⟩:=hrel
  by_cases hlt:m < 10
  ·obtain ⟨m3,hm3⟩:∃ m3,m3=m % 3:=⟨_,rfl⟩
   have hr:(m:Int) % 3=(m3:Int):=by omega
   have zjS:=znq (show rP k (m+1)=rP k m++[zaM k m3] by rw [hm3];exact zed k m)
   have hm33:m3 < 3:=by omega
   clear hm3
   go_wp2_with fail
   refine (zl7 kp q p m3 k _ (HK.znr.later HB.znr) hm33).mono ?_
   rintro e w4 ⟨rfl,nD⟩
   have HV:=znq (zm HV.znr nD)
   have HB:=znq (HB.znr.trans (nD.mono HB.znr.size))
   have HPL:=znq (X1 HFIT.znr m3)
   generalize zaM k m3=y at *
   clear nD
   go_wp2_with (refine qQ 299 59 16 1 _ [y.map B] rfl rfl rfl Tryz.underlying299 zF rfl (by omega) rfl (by omega) (by omega) (by simp [HPL.znr]) ?_)
   intro w5 hb5 mX
   try rw [show ([y.map B]:List (List Value)).flatten=y.map B by simp] at hb5
   have HB5:=znq hb5
   have HV:=znq (zm HV.znr mX)
   have HB:=znq (HB.znr.trans (mX.mono HB.znr.size))
   clear hb5 mX
   go_wp2_with (at_builtin;refine wpList_append_own _ rfl (.tmp 53) (.tmp 58) 299 rfl w2.heap.size 59 i0 (.agg ((zf 16).map B).toArray) 16 16 Tryz.underlying299 HI0.znr.1 HI0.znr.2.1 HI0.znr.2.2.1 HI0.znr.2.2.2 rfl (by decide) _ _ _ rfl HV.znr ⟨w4.heap.size,0,none⟩ 1 1 (y.map B) rfl ?c0 HB5.znr.lies.news (zg y) ?c3 ?c4 HB.znr.size ?_)
   case c0=>rw [yf,HPL.znr]
   case c3=>unfold maxLen;omega
   case c4=>omega
   intro v6 w6 hown6 hgr6 _
   rw [← YM,← zjS.znr] at hown6
   have HB6:=znq (z8 HB.znr HV.znr hgr6 (xc _) HB.znr.size)
   have HV6:=znq hown6
   clear hgr6 hown6
   go_wp2
   go_roundw
   case rel=>exact ⟨m+1,by omega,by go_num,HV6,HB6⟩
   case measure=>simp [intOf];omega
  ·obtain rfl:m=10:=by omega
   obtain ⟨g,zjP,rfl,hbg,hgl⟩:=HV.znr.form (by omega)
   have HS:=znq (HS.znr.later HB.znr)
   have HK:=znq (HK.znr.later HB.znr)
   have HR:=znq (show Yg wr (some ⟨g,0,none⟩) (rP k 10) from ⟨zee HFIT.znr 10,zr.nQ HV.znr⟩)
   have HRL:=znq (WS k 10)
   generalize rP k 10=rows at *
   clear HV HB hbg hgl
   have hc0:=fun (x:zG wr.drew)=>(HK.znr.drew.later x.later).c0
   go_wp2_with fail
   refine zn [0,1,2,3,4,5,6,7,8,9,10,14,11,12,13,15,16] (by kernel_rfl) (by kernel_rfl) ?_
   rintro w4 rfl
   iterate 4 refine m1R ?_
   refine zt (HS.znr.drew.get 1 rfl).range (HS.znr.drew.get 1 rfl).lt zc HXM.znr rfl rfl rfl rfl (fun K hK=>?_)
   go_simp;refine hK _ ?_;clear hK K
   iterate 5 refine m1R ?_
   refine zt HK.znr.drew.rl HK.znr.drew.blk.lt zc HL.znr rfl rfl rfl rfl (fun K hK=>?_)
   go_simp;refine hK _ ?_;clear hK K
   refine m1R ?_
   clear hc0
   refine zi rfl rfl (by rfl) (fun K hK=>?_)
   go_simp
   rw [show (Value.int .u64 (i:Int))=L (wF i) by simp [L];omega]
   refine (Yj (wF i) k.l _ HFL.znr).mono ?_
   rintro e w5 ⟨rfl,mX⟩
   have HS:=znq (HS.znr.drew.later mX)
   have HK:=znq (HK.znr.drew.later mX)
   have HR:=znq (show Yg w5 (some ⟨g,0,none⟩) rows from ⟨HR.znr.each,HR.znr.lies.below ((Below.refl _ wr).drew.trans mX)⟩)
   have H1:=znq (j0 (wF i) k.l)
   generalize multiple (wF i) k.l=y at *
   go_simp
   refine hK _ _ mX ?_
   clear hK K mX
   refine zi rfl rfl (by rfl) (fun K hK=>?_)
   refine y8 299 59 16 1 _ [y.map B] rfl rfl Tryz.underlying299 zF rfl (by omega) rfl (by omega) (by omega) (by simp [H1.znr]) ?_
   intro w8 hb8 nG
   have HK:=znq (HK.znr.later nG)
   have HS:=znq (HS.znr.later nG)
   have HR:=znq (show Yg w8 (some ⟨g,0,none⟩) rows from ⟨HR.znr.each,HR.znr.lies.below nG⟩)
   refine hK _ _ nG ?_
   clear hK K nG
   have HB8:=znq (show yB 16 w8 (some ⟨w5.heap.size,0,none⟩) [y] from ⟨by simp [H1.znr],by have:=hb8.lies;simpa using this⟩)
   clear hb8
   go_simp
   refine zi rfl rfl (by rfl) (fun K hK=>?_)
   go_simp
   refine (QL x (some ⟨w5.heap.size,0,none⟩) 1 1 [y] _ HX.znr rfl (by omega) HB8.znr).mono ?_
   rintro e w10 ⟨rfl,nE⟩
   have HK:=znq (HK.znr.later nE)
   have HS:=znq (HS.znr.later nE)
   have HR:=znq (show Yg w10 (some ⟨g,0,none⟩) rows from ⟨HR.znr.each,HR.znr.lies.below nE⟩)
   have HYL:=znq (k8 [y] x HX.znr)
   generalize [y].foldl both x=z at *
   go_simp
   refine hK _ _ nE ?_
   clear hK K nE
   refine mqR ?_
   refine zi rfl rfl (by rfl) (fun K hK=>?_)
   go_simp
   refine (QI q p z (some ⟨g,0,none⟩) 10 zjP rows _ HK.znr.tab HYL.znr HRL.znr (by omega) HR.znr).mono ?_
   rintro e w12 ⟨rfl,rG⟩
   rw [← HE.znr]
   have HS:=znq (HS.znr.later rG)
   have HEL:=znq (show ((zrg k i x).map B).length=16 by rw [yf];exact yM _ _ _)
   go_simp
   refine hK _ _ rG ?_
   clear hK K rG
   refine zp rfl rfl (by rfl) (fun K hK=>?_)
   refine (HS.znr.get 0 rfl).mZ rfl rfl rfl zc (by rw [yf];exact zd 16) HEL.znr (zg _) (fun w13 zbA zaS=>hK _ _ ?_)
   clear hK K
   have sU:=zk HS.znr.bel zaS (by omega)
   go_simp
   refine zo ?_
   go_wp2
   refine zbA.result rfl rfl rfl zc HEL.znr ⟨rfl,?_⟩
   rw [HBB.znr]
   exact sU
end Go.Proofs.YtamdifhibogdiaaGreatDoor
namespace Go.Ezh
open Ops Oct Gf Trn Aes Ring Ezk
def vM (k:zv) (j:Nat) (sum b:List UInt8):List UInt8:=both sum (pM k j 0 (block (qv b 128 16)))
def wM (k:zv) (j:Nat):Nat→Nat→List UInt8→List UInt8→List UInt8
 | 0,_,sum,_=>sum
 | f+1,n,sum,b=>if 16≤b.length then wM k j f (n+1) (both sum (pM k j (n+1) (block b))) (b.drop 16) else if b.length=0 then sum else vM k j sum b
def kP (k:zv) (j:Nat) (b:List UInt8):List UInt8:=if b.length=0 then vM k j (zf 16) b else wM k j (b.length+1) 0 (zf 16) b
theorem Z1 (k:zv) (j:Nat) (sum b:List UInt8):(vM k j sum b).length=16:=zB _ _
theorem Xa (k:zv) (j:Nat):∀ (f n:Nat) (sum b:List UInt8),sum.length=16→(wM k j f n sum b).length=16
 | 0,_,_,_,h=>h
 | f+1,n,sum,b,h=>by
  unfold wM
  split
  ·exact Xa k j f _ _ _ (zB _ _)
  ·split
   ·exact h
   ·exact Z1 _ _ _ _
theorem WT (k:zv) (j:Nat) (b:List UInt8):(kP k j b).length=16:=by
 unfold kP
 split
 ·exact Z1 _ _ _ _
 ·exact Xa _ _ _ _ _ _ (zd 16)
def Ja (k:zv):Nat→List UInt8→List (List UInt8)→List UInt8
 | _,sum,[]=>sum
 | j,sum,b::r=>Ja k (j+1) (both sum (kP k j b)) r
def qB (k:zv) (row:List (List UInt8)):List UInt8:=Ja k 3 (zf 16) row
theorem Xb (k:zv):∀ (row:List (List UInt8)) (j:Nat) (sum:List UInt8),sum.length=16→(Ja k j sum row).length=16
 | [],_,_,h=>h
 | b::r,j,sum,_=>Xb k r _ _ (zB _ _)
theorem vk (k:zv) (row:List (List UInt8)):(qB k row).length=16:=Xb _ _ _ _ (zd 16)
def zpt (h:List UInt8) (n:Nat):List UInt8:=(uf 16).map fun i=>if i < 8 then at8 h i else ya (at8 h i) (at8 (zz (wF n)) (15 - i))
def zo1 (k:zv) (h:List UInt8) (n:Nat):Nat→List UInt8→List UInt8
 | 0,out=>out
 | f+1,out=>if n≤out.length then out else zo1 k h n f (out++zrg k 3 (zpt h (out.length / 16)))
def Xh (k:zv) (row:List (List UInt8)) (n:Nat):List UInt8:=(zo1 k (qB k row) n (n+1) []).take n
theorem zoh (k:zv) (h:List UInt8) (n:Nat):∀ (f:Nat) (out:List UInt8),n≤out.length+16*f→n≤(zo1 k h n f out).length
 | 0,out,h=>by simp only [zo1];omega
 | f+1,out,h'=>by
  unfold zo1
  split
  ·assumption
  ·exact zoh k h n f _ (by rw [q8,yM];omega)
theorem zo2 (k:zv) (row:List (List UInt8)) (n:Nat):(Xh k row n).length=n:=by
 unfold Xh
 rw [Ku]
 have:=zoh k (qB k row) n (n+1) [] (by simp;omega)
 omega
end Go.Ezh
namespace Go.ru
open Ops
def jm:List UInt8→List UInt8
 | []=>[]
 | b::l=>rF b 4::rE b 15::jm l
theorem jN (l:List UInt8):(jm l).length=2*l.length:=by
 induction l with
 | nil=>rfl
 | cons b l ih=>simp [jm,ih];omega
def nib (b:UInt8) (m:Nat):UInt8:=rE (rF b (4*(1 - m))) (VW 15)
theorem zjm (b:UInt8):nib b 0=rF b 4:=Xg (p:=fun b=>nib b 0=rF b 4) (by decide +kernel) b
theorem zl8 (b:UInt8):nib b 1=rE b 15:=Xg (p:=fun b=>nib b 1=rE b 15) (by decide +kernel) b
theorem zl9 (l:List UInt8) (k:Nat) (h:k < 2*l.length):(jm l)[k]? = some (nib (l.getD (k / 2) 0) (k % 2)):=by
 induction l generalizing k with
 | nil=>simp at h
 | cons b l ih =>
  match k with
  | 0=>simp [jm];exact (zjm b).symm
  | 1=>simp [jm];exact (zl8 b).symm
  | k+2 =>
   have:=ih k (by simp at h;omega)
   simp only [jm,List.getElem?_cons_succ]
   rw [this]
   have e1:(k+2) / 2=k / 2+1:=by omega
   have e2:(k+2) % 2=k % 2:=by omega
   rw [e1,e2]
   simp
def j3 (L:List UInt8) (n k:Nat):List UInt8:=L.take k++wh (n - k) 0
theorem zgw (L:List UInt8) (n:Nat):j3 L n 0=wh n 0:=by simp [j3]
theorem zgx (L:List UInt8) (n:Nat) (h:L.length=n):j3 L n n=L:=by simp [j3,← h]
theorem zjn (L:List UInt8) (n k:Nat) (u:UInt8) (hL:L.length=n) (hu:L[k]? = some u):(j3 L n k).set k u=j3 L n (k+1):=by
 have hk:k < L.length:=(List.getElem?_eq_some_iff.1 hu).1
 unfold j3
 rw [List.set_append,if_neg (by simp;omega)]
 have e:n - k=(n - (k+1))+1:=by omega
 have hl:(L.take k).length=k:=by simp;omega
 rw [hl,Nat.sub_self,e,lh,List.set_cons_zero,List.take_add_one,hu]
 simp
theorem zbq (L:List UInt8) (n k:Nat) (hL:L.length=n) (hk:k≤n):(j3 L n k).length=n:=by
 simp [j3];omega
def half (a:UInt8) (m:Nat):UInt8:=Z6 (rE a (VW 15)) (4*(1 - m))
def kf:List UInt8→List UInt8
 | []=>[]
 | [a]=>[half a 0]
 | a::b::l=>or8 (half a 0) (half b 1)::kf l
theorem ZE (h:List UInt8):(kf h).length=(h.length+1) / 2:=by
 fun_induction kf h with
 | case1=>simp
 | case2=>simp
 | case3 a b l ih=>simp [ih];omega
def qw (h:List UInt8) (k:Nat):List UInt8:=kf (h.take k)++wh ((h.length+1) / 2 - (k+1) / 2) 0
theorem Vu (h:List UInt8) (k:Nat) (hk:k≤h.length):(qw h k).length=(h.length+1) / 2:=by
 simp [qw,ZE,Nat.min_eq_left hk];omega
theorem zbr (h:List UInt8):qw h 0=wh ((h.length+1) / 2) 0:=by simp [qw,kf]
theorem zbs (h:List UInt8):qw h h.length=kf h:=by simp [qw]
theorem or_zero (a:UInt8):or8 0 a=a:=by simp [or8]
theorem zef (h:List UInt8) (k:Nat) (u:UInt8) (hu:h[k]? = some u) :
  (qw h k).set (k / 2) (or8 ((qw h k).getD (k / 2) 0) (half u (k % 2)))=qw h (k+1):=by
 fun_induction kf h generalizing k with
 | case1=>cases hu
 | case2 a =>
  match k with
  | 0=>simp at hu;subst hu;simp [qw,kf,or_zero]
  | k+1=>simp at hu
 | case3 a b l ih =>
  match k with
  | 0 =>
   simp at hu;subst hu
   have e:(l.length+1+1+1) / 2=(l.length+1) / 2+1:=by omega
   simp [qw,kf,e,lh,or_zero]
  | 1 =>
   simp at hu;subst hu
   have e:(l.length+1+1+1) / 2 - 1=(l.length+1) / 2:=by omega
   simp [qw,kf,e]
  | k+2 =>
   have hih:=ih k (by simpa using hu)
   have e1:(k+2) / 2=k / 2+1:=by omega
   have e2:(k+2) % 2=k % 2:=by omega
   have e3:∀ j,qw (a::b::l) (j+2)=or8 (half a 0) (half b 1)::qw l j:=by
    intro j
    have e:((l.length+1+1+1) / 2 - (j+2+1) / 2)=((l.length+1) / 2 - (j+1) / 2):=by omega
    simp [qw,kf,e]
   rw [e1,e2,e3,show k+2+1=(k+1)+2 by omega,e3,← hih]
   simp
theorem zgy (b:UInt8):or8 (half (rF b 4) 0) (half (rE b 15) 1)=b:=Xg (p:=fun b=>or8 (half (rF b 4) 0) (half (rE b 15) 1)=b) (by decide +kernel) b
theorem zgz (l:List UInt8):kf (jm l)=l:=by
 induction l with
 | nil=>rfl
 | cons b l ih=>simp only [jm,kf,zgy,ih]
theorem zjo (b:UInt8):(rF b 4).toNat≤15:=Xg (p:=fun b=>(rF b 4).toNat≤15) (by decide +kernel) b
theorem zjp (b:UInt8):(rE b 15).toNat≤15:=Xg (p:=fun b=>(rE b 15).toNat≤15) (by decide +kernel) b
theorem zjq (l:List UInt8):∀ x∈jm l,x.toNat≤15:=by
 induction l with
 | nil=>intro x hx;cases hx
 | cons b l ih =>
  intro x hx
  simp only [jm,List.mem_cons] at hx
  rcases hx with rfl | rfl | hx
  ·exact zjo b
  ·exact zjp b
  ·exact ih x hx
end Go.ru
namespace Go.Ezt
open Ops Oct Gf Trn Aes Ring Ezk Ezh ru
theorem kg (a b:List UInt8) (i:Nat) (h:i < 16):at8 (both a b) i=ya (at8 a i) (at8 b i):=by
 apply zny
 simp [both,h]
theorem Yl {a b:List UInt8} (ha:a.length=16) (hb:b.length=16) (h:∀ i,i < 16→at8 a i=at8 b i):a=b:=by
 apply uA
 intro i
 by_cases hi:i < 16
 ·rw [q4 (by omega),q4 (by omega),h i hi]
 ·rw [qc (by omega),qc (by omega)]
theorem V4 (a b:UInt8):ya a b=ya b a:=UInt8.xor_comm a b
theorem Jb (a b c:UInt8):ya (ya a b) c=ya a (ya b c):=UInt8.xor_assoc a b c
theorem YO (a:UInt8):ya a a=0:=UInt8.xor_self
theorem zob (a:UInt8):ya a 0=a:=UInt8.xor_zero
theorem ZF (a b:UInt8):ya (ya a b) b=a:=by rw [Jb,YO,zob]
theorem vF (a b:List UInt8):both a b=both b a:=Yl (zB _ _) (zB _ _) fun i hi=>by rw [kg _ _ _ hi,kg _ _ _ hi,V4]
theorem xz (a b c:List UInt8):both (both a b) c=both a (both b c):=Yl (zB _ _) (zB _ _) fun i hi=>by
 rw [kg _ _ _ hi,kg _ _ _ hi,kg _ _ _ hi,kg _ _ _ hi,Jb]
theorem QM (n i:Nat):at8 (zf n) i=0:=by
 by_cases h:i < n
 ·exact zny (by simp [zf,h])
 ·exact XS (by rw [zd];omega)
theorem V5 {a:List UInt8} (h:a.length=16):both a (zf 16)=a:=Yl (zB _ _) h fun i hi=>by rw [kg _ _ _ hi,QM,zob]
theorem YP {a:List UInt8} (h:a.length=16):both (zf 16) a=a:=by rw [vF,V5 h]
theorem zg1 (a:List UInt8):both a a=zf 16:=Yl (zB _ _) (zd 16) fun i hi=>by rw [kg _ _ _ hi,QM,YO]
theorem yr {a:List UInt8} (h:a.length=16) (b:List UInt8):both (both a b) b=a:=by rw [xz,zg1,V5 h]
theorem Ym {a b:List UInt8} {i:Nat} (h1:i < a.length) (h2:i < b.length):(nX a b)[i]? = some (ya (at8 a i) (at8 b i)):=by
 unfold nX
 rw [List.getElem?_map,List.getElem?_range (by omega)]
 rfl
theorem jr {a b:List UInt8} (h:a.length≤b.length):nX (nX a b) b=a:=by
 apply uA
 intro i
 have hl:(nX a b).length=a.length:=by rw [mW];omega
 by_cases hi:i < a.length
 ·rw [Ym (by omega) (by omega),zny (Ym hi (by omega)),ZF,q4 hi]
 ·rw [qc (by rw [mW];omega),qc (by omega)]
def yj (n:Nat):Nat:=if n < 1∨31 < n then 0 else if n=1 then 24 else if n=2 then 16 else if n < 16 then 10 else 8
def plusB (l:List (List UInt8)):List UInt8:=l.foldl both (zf 16)
def qX (n:Nat):List UInt8:=(uf 16).map fun i=>if i < 8 then 0 else at8 (zz (wF n)) (15 - i)
theorem Yn (n:Nat):(qX n).length=16:=by simp [qX]
def stepT (k:zv) (h:List UInt8) (i j:Nat) (half:List UInt8):List UInt8 :=
 (jm (pM k 0 i (plusB [block (kf (half++[8])),h,qX j]))).take half.length
theorem vl (k:zv) (h:List UInt8) (i j:Nat) (half:List UInt8) (hl:half.length≤31):(stepT k h i j half).length=half.length:=by
 unfold stepT
 rw [Ku,jN,yo]
 omega
def QN (m:List UInt8):List UInt8:=(block m).set 0 (or8 (at8 (block m) 0) 128)
def ZG (k:zv) (h m:List UInt8):UInt8:=rE (at8 (pM k 0 3 (plusB [QN m,h])) 0) 128
def xx (k:zv) (h m:List UInt8):List UInt8:=if m.length=0∨16≤m.length then m else m.set 0 (ya (at8 m 0) (ZG k h m))
theorem V6 {k:zv} {h m:List UInt8} (hm:¬ (m.length=0∨16≤m.length)):xx k h m=m.set 0 (ya (at8 m 0) (ZG k h m)):=by unfold xx;rw [if_neg hm]
theorem k9 (k:zv) (h m:List UInt8):(xx k h m).length=m.length:=by
 unfold xx;split;rfl;exact Vo
def xE (m:List UInt8):List UInt8:=(jm m).take m.length
def yV (m:List UInt8):List UInt8:=((jm m).drop m.length).take m.length
theorem WU (m:List UInt8):(xE m).length=m.length:=by unfold xE;rw [Ku,jN];omega
theorem Vv (m:List UInt8):(yV m).length=m.length:=by unfold yV;rw [Ku,XQ,jN];omega
theorem zeg (m:List UInt8):xE m++yV m=jm m:=by
 unfold xE yV
 rw [Y2 (l:=dX _ _) (by rw [XQ,jN];omega),List.take_append_drop]
def swapT (k:zv) (h:List UInt8) (i j:Nat) (p:List UInt8×List UInt8):List UInt8×List UInt8:=(p.2,nX p.1 (stepT k h i j p.2))
def upT (k:zv) (h:List UInt8) (i:Nat):Nat→List UInt8×List UInt8→List UInt8×List UInt8
 | 0,p=>p
 | n+1,p=>swapT k h i n (upT k h i n p)
def ja (k:zv) (h:List UInt8) (i:Nat):Nat→List UInt8×List UInt8→List UInt8×List UInt8
 | 0,p=>p
 | n+1,p=>ja k h i n (swapT k h i n p)
def qx (n:Nat):Nat:=if 16≤n then 6 else 7
def Yo (p:List UInt8×List UInt8):List UInt8:=kf (p.2++p.1)
def jo (k:zv) (row:List (List UInt8)) (m:List UInt8) (back:Bool):List UInt8 :=
 if back=true then Yo (ja k (qB k row) (qx m.length) (yj m.length) (xE (xx k (qB k row) m),yV (xx k (qB k row) m)))
 else xx k (qB k row) (Yo (upT k (qB k row) (qx m.length) (yj m.length) (xE m,yV m)))
def Two (n:Nat) (p:List UInt8×List UInt8):Prop:=p.1.length=n∧p.2.length=n
theorem Two.swap {k:zv} {h:List UInt8} {i j n:Nat} {p:List UInt8×List UInt8} (hp:Two n p) (hn:n≤31):Two n (swapT k h i j p):=by
 refine ⟨hp.2,?_⟩
 show (nX _ _).length=n
 rw [mW,vl _ _ _ _ _ (by rw [hp.2];exact hn),hp.1,hp.2]
 omega
theorem Two.up {k:zv} {h:List UInt8} {i n:Nat} {p:List UInt8×List UInt8} (hp:Two n p) (hn:n≤31):∀ r,Two n (upT k h i r p)
 | 0=>hp
 | r+1=>(Two.up hp hn r).swap hn
theorem Two.down {k:zv} {h:List UInt8} {i n:Nat} (hn:n≤31):∀ (r:Nat) {p:List UInt8×List UInt8},Two n p→Two n (ja k h i r p)
 | 0,_,hp=>hp
 | r+1,_,hp=>Two.down hn r (hp.swap hn)
theorem Two.out {n:Nat} {p:List UInt8×List UInt8} (hp:Two n p):(Yo p).length=n:=by
 unfold Yo;rw [ZE,q8,hp.1,hp.2];omega
theorem Two.start (m:List UInt8):Two m.length (xE m,yV m):=⟨WU m,Vv m⟩
theorem V7 {k:zv} {h:List UInt8} {i j n:Nat} {p:List UInt8×List UInt8} (hp:Two n p) (hn:n≤31) :
  swapT k h i j ((swapT k h i j p).2,(swapT k h i j p).1)=(p.2,p.1):=by
 show ((p.2:List UInt8),nX (nX p.1 (stepT k h i j p.2)) (stepT k h i j p.2))=(p.2,p.1)
 rw [jr (by rw [vl _ _ _ _ _ (by rw [hp.2];exact hn),hp.1,hp.2];omega)]
theorem down_up {k:zv} {h:List UInt8} {i n:Nat} (hn:n≤31):∀ (r:Nat) {p:List UInt8×List UInt8},Two n p→ja k h i r ((upT k h i r p).2,(upT k h i r p).1)=(p.2,p.1)
 | 0,_,_=>rfl
 | r+1,p,hp=>by
  show ja k h i r (swapT k h i r ((swapT k h i r (upT k h i r p)).2,(swapT k h i r (upT k h i r p)).1))=_
  rw [V7 (hp.up hn r) hn]
  exact down_up hn r hp
theorem up_down {k:zv} {h:List UInt8} {i n:Nat} (hn:n≤31):∀ (r:Nat) {p:List UInt8×List UInt8},Two n p→upT k h i r ((ja k h i r p).2,(ja k h i r p).1)=(p.2,p.1)
 | 0,_,_=>rfl
 | r+1,p,hp=>by
  show swapT k h i r (upT k h i r ((ja k h i r (swapT k h i r p)).2,(ja k h i r (swapT k h i r p)).1))=_
  rw [up_down hn r (hp.swap hn),V7 hp hn]
def Low (l:List UInt8):Prop:=∀ x∈l,x.toNat≤15
theorem Jc (m:List UInt8):Low (jm m):=zjq m
theorem zma:∀ x,x < 16→∀ y,y < 16→(ya (VW x) (VW y)).toNat≤15:=by decide +kernel
theorem zjr (a b:UInt8) (ha:a.toNat≤15) (hb:b.toNat≤15):(ya a b).toNat≤15:=by
 have:=zma a.toNat (by omega) b.toNat (by omega)
 rwa [uO,uO] at this
theorem zft {l:List UInt8} (h:Low l) (i:Nat):(at8 l i).toNat≤15:=by
 by_cases hi:i < l.length
 ·exact h _ (List.mem_of_getElem? (q4 hi))
 ·rw [XS (by omega)];simp
theorem Low.nX {a b:List UInt8} (ha:Low a) (hb:Low b):Low (nX a b):=by
 intro x hx
 simp only [Oct.nX,ug] at hx
 obtain ⟨i,_,rfl⟩:=hx
 exact zjr _ _ (zft ha i) (zft hb i)
theorem Low.take {l:List UInt8} (h:Low l) (n:Nat):Low (l.take n):=fun x hx=>h x (List.mem_of_mem_take hx)
theorem Low.drop {l:List UInt8} (h:Low l) (n:Nat):Low (l.drop n):=fun x hx=>h x (List.mem_of_mem_drop hx)
theorem Low.append {a b:List UInt8} (ha:Low a) (hb:Low b):Low (a++b):=fun x hx=>(List.mem_append.1 hx).elim (ha x) (hb x)
def Y0 (p:List UInt8×List UInt8):Prop:=Low p.1∧Low p.2
theorem Y0.swap {k:zv} {h:List UInt8} {i j:Nat} {p:List UInt8×List UInt8} (hp:Y0 p):Y0 (swapT k h i j p):=⟨hp.2,hp.1.nX ((Jc _).take _)⟩
theorem Y0.up {k:zv} {h:List UInt8} {i:Nat} {p:List UInt8×List UInt8} (hp:Y0 p):∀ r,Y0 (upT k h i r p)
 | 0=>hp
 | r+1=>(Y0.up hp r).swap
theorem Y0.down {k:zv} {h:List UInt8} {i:Nat}:∀ (r:Nat) {p:List UInt8×List UInt8},Y0 p→Y0 (ja k h i r p)
 | 0,_,hp=>hp
 | r+1,_,hp=>Y0.down r hp.swap
theorem Y0.start (m:List UInt8):Y0 (xE m,yV m):=⟨(Jc m).take _,((Jc m).drop _).take _⟩
theorem zg2:∀ x,x < 16→∀ y,y < 16→rF (or8 (half (VW x) 0) (half (VW y) 1)) 4=VW x∧rE (or8 (half (VW x) 0) (half (VW y) 1)) 15=VW y:=by decide +kernel
theorem V8:∀ (l:List UInt8),Low l→l.length % 2=0→jm (kf l)=l
 | [],_,_=>rfl
 | [a],_,h=>by simp at h
 | a::b::l,hl,h=>by
  have ha:=hl a (by simp)
  have hb:=hl b (by simp)
  have:=zg2 a.toNat (by omega) b.toNat (by omega)
  rw [uO,uO] at this
  rw [kf,jm,this.1,this.2,V8 l (fun x hx=>hl x (by simp [hx])) (by simp at h;omega)]
theorem Jd {n:Nat} {p:List UInt8×List UInt8} (hp:Two n p) (hl:Y0 p):(xE (Yo p),yV (Yo p))=(p.2,p.1):=by
 have h1:jm (Yo p)=p.2++p.1:=V8 _ (hl.2.append hl.1) (by rw [q8,hp.1,hp.2];omega)
 have h2:=hp.out
 unfold xE yV
 rw [h1,h2,List.take_append_of_le_length (by rw [hp.2];exact xc _),Y2 (by rw [hp.2];exact xc _),List.drop_append_of_le_length (by rw [hp.2];exact xc _),Yx (by rw [hp.2];exact xc _),List.nil_append,Y2 (by rw [hp.1];exact xc _)]
theorem Je (m:List UInt8):Yo (yV m,xE m)=m:=by
 unfold Yo;rw [zeg,zgz]
theorem zjs:∀ x,x < 256→∀ y,y < 256→or8 (ya (VW x) (rE (VW y) 128)) 128=or8 (VW x) 128:=by decide +kernel
theorem zbt {m:List UInt8} (h:m.length≠0) (y:UInt8):QN (m.set 0 (ya (at8 m 0) (rE y 128)))=QN m:=by
 have hs:∀ i,i≠0→at8 (m.set 0 (ya (at8 m 0) (rE y 128))) i=at8 m i:=fun i hi=>by
  unfold at8;simp [bT,uH (Ne.symm hi)]
 have h0:at8 (m.set 0 (ya (at8 m 0) (rE y 128))) 0=ya (at8 m 0) (rE y 128):=zny (by rw [uW (by omega)])
 have hb:∀ (l:List UInt8) i,i < 16→at8 (block l) i=at8 l i:=fun l i hi=>zny (by simp [block,hi])
 unfold QN
 refine Yl (by rw [Vo,zA]) (by rw [Vo,zA]) fun i hi=>?_
 by_cases e:i=0
 ·subst e
  rw [zny (uW (by rw [zA];omega)),zny (uW (by rw [zA];omega)),hb _ _ hi,hb _ _ hi,h0]
  have:=zjs (at8 m 0).toNat (lZ _) y.toNat (lZ _)
  rwa [uO,uO] at this
 ·unfold at8
  simp only [bT,uH (Ne.symm e)]
  have:=hb (m.set 0 (ya (at8 m 0) (rE y 128))) i hi
  have h2:=hb m i hi
  rw [hs i e,← h2] at this
  exact this
theorem flip_flip (k:zv) (h m:List UInt8):xx k h (xx k h m)=m:=by
 by_cases hm:m.length=0∨16≤m.length
 ·have e:xx k h m=m:=by unfold xx;rw [if_pos hm]
  rw [e,e]
 ·have e:xx k h m=m.set 0 (ya (at8 m 0) (ZG k h m)):=by unfold xx;rw [if_neg hm]
  have hl:(xx k h m).length=m.length:=k9 _ _ _
  have hby:ZG k h (xx k h m)=ZG k h m:=by
   unfold ZG
   rw [e]
   unfold ZG
   rw [zbt (by omega)]
  have e2:xx k h (xx k h m)=(xx k h m).set 0 (ya (at8 (xx k h m) 0) (ZG k h m)):=by
   rw [V6 (m:=xx k h m) (by rw [hl];exact hm),hby]
  have h0:at8 (xx k h m) 0=ya (at8 m 0) (ZG k h m):=zny (by rw [e,uW (by omega)])
  rw [e2,h0,ZF,e,List.set_set]
  apply uA
  intro i
  by_cases hi:i=0
  ·subst hi
   rw [uW (by omega),q4 (by omega)]
  ·rw [uH (Ne.symm hi)]
theorem X2 (k:zv) (row:List (List UInt8)) (m:List UInt8) (back:Bool) (hm:m.length≤31):(jo k row m back).length=m.length:=by
 unfold jo
 split
 ·have:=(Two.start (xx k (qB k row) m))
  rw [k9] at this
  exact (this.down hm _).out
 ·rw [k9]
  exact ((Two.start m).up hm _).out
theorem zeh (k:zv) (row:List (List UInt8)) (m:List UInt8) (back:Bool) (hm:m.length≤31):jo k row (jo k row m back) (!back)=m:=by
 have hl:=X2 k row m back hm
 cases back with
 | false =>
  show jo k row _ true=m
  have e:jo k row m false=xx k (qB k row) (Yo (upT k (qB k row) (qx m.length) (yj m.length) (xE m,yV m))):=rfl
  rw [jo,if_pos rfl,hl,e,flip_flip,Jd ((Two.start m).up hm _) ((Y0.start m).up _),down_up hm _ (Two.start m)]
  exact Je m
 | true =>
  show jo k row _ false=m
  have e:jo k row m true=Yo (ja k (qB k row) (qx m.length) (yj m.length) (xE (xx k (qB k row) m),yV (xx k (qB k row) m))):=rfl
  have ht:=(Two.start (xx k (qB k row) m))
  rw [k9] at ht
  rw [jo,if_neg (by simp),hl,e,Jd (ht.down hm _) ((Y0.start _).down _),up_down hm _ ht]
  show xx _ _ (Yo (yV _,xE _))=m
  rw [Je,flip_flip]
end Go.Ezt
namespace Go.Blake
open Ops Oct
def at64 (l:List UInt64) (i:Nat):UInt64:=l.getD i 0
theorem z9 {l:List UInt64} {i:Nat} (h:i < l.length):l[i]? = some (at64 l i):=by simp [at64,bT,h]
def Jf (x:UInt64) (n:Nat):UInt64:=wi (xf x (64 - n)) (yp x n)
def sM (v:List UInt64) (a b c d:Nat) (x:UInt64) (n m:Nat):List UInt64 :=
 let v1:=v.set a (zy (at64 v a) (zy (at64 v b) x))
 let v2:=v1.set d (Jf (qf (at64 v1 d) (at64 v1 a)) n)
 let v3:=v2.set c (zy (at64 v2 c) (at64 v2 d))
 v3.set b (Jf (qf (at64 v3 b) (at64 v3 c)) m)
theorem X3 (v:List UInt64) (a b c d:Nat) (x:UInt64) (n m:Nat):(sM v a b c d x n m).length=v.length:=by simp [sM]
def V9 (v:List UInt64) (i by':Nat) (x y:UInt64):List UInt64 :=
 sM (sM v i (4+(i+by') % 4) (8+(i+2*by') % 4) (12+(i+3*by') % 4) x 32 24) i (4+(i+by') % 4) (8+(i+2*by') % 4) (12+(i+3*by') % 4) y 16 63
theorem WV (v:List UInt64) (i by':Nat) (x y:UInt64):(V9 v i by' x y).length=v.length:=by simp [V9,X3]
def wN:List UInt64:=[0x6a09e667f3bcc908,0xbb67ae8584caa73b,0x3c6ef372fe94f82b,0xa54ff53a5f1d36f1,0x510e527fade682d1,0x9b05688c2b3e6c1f,0x1f83d9abfb41bd6b,0x5be0cd19137e2179]
def zbu:List UInt8:=[
 0,1,2,3,4,5,6,7,8,9,10,11,12,13,14,15,
 14,10,4,8,9,15,13,6,1,12,0,2,11,7,5,3,
 11,8,12,0,5,2,15,13,10,14,3,6,7,1,9,4,
 7,9,3,1,13,12,11,14,2,6,5,10,4,0,15,8,
 9,0,5,7,2,4,10,15,14,1,11,12,6,8,3,13,
 2,12,6,10,0,11,8,3,4,13,7,5,15,14,1,9,
 12,5,1,15,14,13,4,10,0,7,6,3,9,2,8,11,
 13,11,7,14,12,1,3,9,5,0,15,4,8,6,2,10,
 6,15,14,9,11,3,0,8,12,2,13,7,1,4,10,5,
 10,2,8,4,7,6,1,5,15,11,9,14,3,12,13,0]
def js (r:Nat):List UInt8:=(zbu.drop (16*r)).take 16
theorem Q9 {r:Nat} (h:r < 10):(js r).length=16:=by
 unfold js;rw [Ku,XQ];show min 16 (160 - 16*r)=16;omega
theorem Jg:∀ r,r < 10→∀ i,i < 16→(at8 (js r) i).toNat < 16:=by decide
def rD (m:List UInt64) (row:List UInt8) (v:List UInt64):Nat→List UInt64
 | 0=>v
 | k+1=>V9 (rD m row v k) (k % 4) (k / 4) (at64 m (at8 row (2*k)).toNat) (at64 m (at8 row (2*k+1)).toNat)
theorem wO (m:List UInt64) (row:List UInt8) (v:List UInt64):∀ k,(rD m row v k).length=v.length
 | 0=>rfl
 | k+1=>by rw [rD,WV,wO m row v k]
def nJ (m v:List UInt64):Nat→List UInt64
 | 0=>v
 | r+1=>rD m (js (r % 10)) (nJ m v r) 8
theorem vN (m v:List UInt64):∀ r,(nJ m v r).length=v.length
 | 0=>rfl
 | r+1=>by rw [nJ,wO,vN m v r]
def numbers (blk:List UInt8):List UInt64:=(uf 16).map fun i=>pJ blk (8*i)
theorem Jh (blk:List UInt8):(numbers blk).length=16:=by simp [numbers]
def wu (h:List UInt64) (i:Nat):UInt64:=if i < 8 then at64 h i else at64 wN (i - 8)
def wP (h:List UInt64):List UInt64:=(uf 16).map (wu h)
theorem jE (h:List UInt64):(wP h).length=16:=by simp [wP]
def jt (h:List UInt64) (lo hi:UInt64):List UInt64 :=
 let v:=(wP h).set 12 (qf (at64 (wP h) 12) lo)
 v.set 13 (qf (at64 v 13) hi)
theorem wQ (h:List UInt64) (lo hi:UInt64):(jt h lo hi).length=16:=by simp [jt,jE]
def sG (h:List UInt64) (lo hi:UInt64) (last:Bool):List UInt64 :=
 if last=true then (jt h lo hi).set 14 (za9 (at64 (jt h lo hi) 14)) else jt h lo hi
theorem Vw (h:List UInt64) (lo hi:UInt64) (last:Bool):(sG h lo hi last).length=16:=by
 unfold sG;split <;> simp [wQ]
def Ji (h v:List UInt64) (i:Nat):UInt64:=qf (at64 h i) (qf (at64 v i) (at64 v (i+8)))
def compress (h:List UInt64) (blk:List UInt8) (lo hi:UInt64) (last:Bool):List UInt64 :=
 (uf 8).map (Ji h (nJ (numbers blk) (sG h lo hi last) 12))
theorem kC (h:List UInt64) (blk:List UInt8) (lo hi:UInt64) (last:Bool):(compress h blk lo hi last).length=8:=by simp [compress]
def ju:List UInt64→List UInt8
 | []=>[]
 | n::r=>zz n++ju r
theorem Xc:∀ (l:List UInt64),(ju l).length=8*l.length
 | []=>rfl
 | n::r=>by simp only [ju,q8,zK,List.length_cons,Xc r];omega
theorem Ka:∀ (l:List UInt64) (n:UInt64),ju (l++[n])=ju l++zz n
 | [],n=>by simp [ju]
 | x::r,n=>by simp only [List.cons_append,ju,Ka r n,List.append_assoc]
def Zl (n:Nat) (b:List UInt8):List UInt8:=b++zf (n - b.length)
def Yp:List UInt64:=wN.set 0 (qf 0x6a09e667f3bcc908 0x01010030)
def Kb (b:List UInt8):List UInt8:=(ju (compress Yp (Zl 128 b) (wF b.length) 0 true)).take 48
theorem WW (b:List UInt8):(Kb b).length=48:=by
 unfold Kb;rw [Ku,Xc,kC];rfl
end Go.Blake
namespace Go.Cells
open RowKit
theorem Zm {b:Nat} {w w':World} (h:Only b w w'):Only b w w'.drew:=⟨h.os,h.tape,h.output,h.size,h.block⟩
theorem Blk.ry {P:Program} {w:World} {b i:Nat} {vs:List Value} {ty':TypeId} (h:Blk w b vs ty') {ops:Array Oper} {rest:List Oper} {op:Oper} {a:Act} {Q:Exit→Act→World→Prop} {ty:TypeId} {x y:Operand} {v:Value}
  (hgd:op.guard=none) (ho:op.op=.store ty x y) (hx:a.eval x=.pointer (some ⟨b,i,none⟩)) (hy:a.eval y=v) (hs:(P.info? ty).map (·.size)=some 1) (hv:v.cells=#[v]) (h1:v.oneCell'=true) (hi:i < vs.length)
  (k:∀ w',Blk w' b (vs.set i v) ty'→Only b w w'→wpList P ops Q rest (a.put op.dst undef) w'):wpList P ops Q (op::rest) a w :=
 wpList_plain hgd fun _ hK=>h.nO ho hx hy hs hv h1 hi fun w' hb ho'=>hK _ _ (k w' hb ho')
end Go.Cells
namespace Go.Proofs.YtamdifhibogdiaaGreatDoor
open RowKit Mem Ops Cells Oct Blake
attribute [local irreducible] zE zN zO zM
theorem zR:(Tryz.prog.info? 60).map (·.size)=some 1:=by kernel_rfl
def zbv (n:Nat):Prop:=n=32∨n=24∨n=16∨n=63
theorem zjt (x:UInt64) (n:Nat) (w:World) (hn:zbv n):Calls Tryz.prog 279 #[L x,.int .i64 (-(n:Int))] w fun e w'=>e=.returned (L (Jf x n))∧w=w':=by
 rcases hn with rfl | rfl | rfl | rfl
 ·show Calls _ _ #[L x,.int .i64 (-32)] w _
  have hz:IntKind.u64.wrap (-32)=18446744073709551584:=by decide
  have hz2:bits .and .u64 (18446744073709551584) 63=32:=by decide
  go_enter Tryz.func279,Tryz.ntmps279
  go_wp2
  go_ret
  exact ⟨rfl,rfl⟩
 ·show Calls _ _ #[L x,.int .i64 (-24)] w _
  have hz:IntKind.u64.wrap (-24)=18446744073709551592:=by decide
  have hz2:bits .and .u64 (18446744073709551592) 63=40:=by decide
  go_enter Tryz.func279,Tryz.ntmps279
  go_wp2
  go_ret
  exact ⟨rfl,rfl⟩
 ·show Calls _ _ #[L x,.int .i64 (-16)] w _
  have hz:IntKind.u64.wrap (-16)=18446744073709551600:=by decide
  have hz2:bits .and .u64 (18446744073709551600) 63=48:=by decide
  go_enter Tryz.func279,Tryz.ntmps279
  go_wp2
  go_ret
  exact ⟨rfl,rfl⟩
 ·show Calls _ _ #[L x,.int .i64 (-63)] w _
  have hz:IntKind.u64.wrap (-63)=18446744073709551553:=by decide
  have hz2:bits .and .u64 (18446744073709551553) 63=1:=by decide
  go_enter Tryz.func279,Tryz.ntmps279
  go_wp2
  go_ret
  exact ⟨rfl,rfl⟩
theorem zfu (pv a b c d n m:Nat) (x:UInt64) (vs:List UInt64) (w:World) (hb:Blk w pv (vs.map L) 373) (hl:vs.length=16) (ha:a < 16) (hbl:b < 16) (hc:c < 16) (hd:d < 16) (hn:zbv n) (hm:zbv m) :
  Calls Tryz.prog 276 #[.pointer (some ⟨pv,0,none⟩),.int .i64 a,.int .i64 b,.int .i64 c,.int .i64 d,L x,.int .i64 n,.int .i64 m] w fun e w'=>(∃ v,e=.returned v)∧Blk w' pv ((sM vs a b c d x n m).map L) 373∧Only pv w w':=by
 have HB:=znq hb
 have HL:=znq hl
 have HN:=znq hn
 have HM:=znq hm
 have HO:=znq (Only.refl pv w)
 have hn1:IntKind.i64.wrap (-(n:Int))=-(n:Int):=IntWalk.i64_in _ (by unfold zbv at hn;omega)
 have hm1:IntKind.i64.wrap (-(m:Int))=-(m:Int):=IntWalk.i64_in _ (by unfold zbv at hm;omega)
 obtain ⟨v1,hv1⟩:∃ v1,v1=vs.set a (zy (at64 vs a) (zy (at64 vs b) x)):=⟨_,rfl⟩
 obtain ⟨v2,hv2⟩:∃ v2,v2=v1.set d (Jf (qf (at64 v1 d) (at64 v1 a)) n):=⟨_,rfl⟩
 obtain ⟨v3,hv3⟩:∃ v3,v3=v2.set c (zy (at64 v2 c) (at64 v2 d)):=⟨_,rfl⟩
 have HE:=znq (show sM vs a b c d x n m=v3.set b (Jf (qf (at64 v3 b) (at64 v3 c)) m) by rw [hv3,hv2,hv1];rfl)
 have HL1:=znq (show v1.length=16 by rw [hv1,Vo];exact hl)
 have HL2:=znq (show v2.length=16 by rw [hv2,Vo];exact HL1.znr)
 have HL3:=znq (show v3.length=16 by rw [hv3,Vo];exact HL2.znr)
 have HV1:=znq hv1
 have HV2:=znq hv2
 have HV3:=znq hv3
 clear hb hl hn hm hv1 hv2 hv3
 go_enter Tryz.func276,Tryz.ntmps276
 have hc1:=fun (x:zG w.drew)=>(HB.znr.drew.below x.later HB.znr.drew.lt).cell a _ (yz (z9 (l:=vs) (i:=a) (by rw [HL.znr];exact ha)))
 have hc2:=fun (x:zG w.drew)=>(HB.znr.drew.below x.later HB.znr.drew.lt).cell b _ (yz (z9 (l:=vs) (i:=b) (by rw [HL.znr];exact hbl)))
 go_wp2_with fail
 refine zn [0,1,2,3,4,5,6,7,8,9,10,11,12,13,14,15] (by kernel_rfl) (by kernel_rfl) ?_
 rintro w1 rfl
 refine mqR ?_
 clear hc1 hc2
 refine zp rfl rfl (by rfl) (fun K hK=>?_)
 refine HB.znr.drew.nO (v:=L (zy (at64 vs a) (zy (at64 vs b) x))) rfl rfl rfl zR rfl rfl (by rw [yf,HL.znr];exact ha) (fun w2 hb2 ho2=>hK _ _ ?_)
 clear hK K
 rw [y7,← HV1.znr] at hb2
 have HB:=znq hb2
 have HO:=znq ((Zm HO.znr).trans ho2)
 clear hb2 ho2
 go_simp
 refine zo ?_
 have hc1:=fun (x:zG w2.drew)=>(HB.znr.drew.below x.later HB.znr.drew.lt).cell a _ (yz (z9 (l:=v1) (i:=a) (by rw [HL1.znr];exact ha)))
 have hc2:=fun (x:zG w2.drew)=>(HB.znr.drew.below x.later HB.znr.drew.lt).cell d _ (yz (z9 (l:=v1) (i:=d) (by rw [HL1.znr];exact hd)))
 go_wp2_with fail
 refine zn [0,1,2,3,4,5,6,7,8,9,10,11,12,13,14,16,15,17,18] (by kernel_rfl) (by kernel_rfl) ?_
 rintro w3 rfl
 refine mqR ?_
 clear hc1 hc2
 refine zi rfl rfl (by rfl) (fun K hK=>?_)
 go_simp
 refine (zjt _ n _ HN.znr).mono ?_
 rintro e w3 ⟨rfl,rfl⟩
 go_simp
 refine hK _ _ (Below.refl _ _) ?_
 clear hK K
 refine mqR ?_
 refine zp rfl rfl (by rfl) (fun K hK=>?_)
 refine HB.znr.drew.nO (v:=L (Jf (qf (at64 v1 d) (at64 v1 a)) n)) rfl rfl rfl zR rfl rfl (by rw [yf,HL1.znr];exact hd) (fun w4 hb4 ho4=>hK _ _ ?_)
 clear hK K
 rw [y7,← HV2.znr] at hb4
 have HB:=znq hb4
 have HO:=znq ((Zm HO.znr).trans ho4)
 clear hb4 ho4
 go_simp
 refine zo ?_
 have hc1:=fun (x:zG w4.drew)=>(HB.znr.drew.below x.later HB.znr.drew.lt).cell c _ (yz (z9 (l:=v2) (i:=c) (by rw [HL2.znr];exact hc)))
 have hc2:=fun (x:zG w4.drew)=>(HB.znr.drew.below x.later HB.znr.drew.lt).cell d _ (yz (z9 (l:=v2) (i:=d) (by rw [HL2.znr];exact hd)))
 go_wp2_with fail
 refine zn [0,1,2,3,4,5,6,7,8,9,10,11,12,13] (by kernel_rfl) (by kernel_rfl) ?_
 rintro w5 rfl
 refine mqR ?_
 clear hc1 hc2
 refine zp rfl rfl (by rfl) (fun K hK=>?_)
 refine HB.znr.drew.nO (v:=L (zy (at64 v2 c) (at64 v2 d))) rfl rfl rfl zR rfl rfl (by rw [yf,HL2.znr];exact hc) (fun w6 hb6 ho6=>hK _ _ ?_)
 clear hK K
 rw [y7,← HV3.znr] at hb6
 have HB:=znq hb6
 have HO:=znq ((Zm HO.znr).trans ho6)
 clear hb6 ho6
 go_simp
 refine zo ?_
 have hc1:=fun (x:zG w6.drew)=>(HB.znr.drew.below x.later HB.znr.drew.lt).cell b _ (yz (z9 (l:=v3) (i:=b) (by rw [HL3.znr];exact hbl)))
 have hc2:=fun (x:zG w6.drew)=>(HB.znr.drew.below x.later HB.znr.drew.lt).cell c _ (yz (z9 (l:=v3) (i:=c) (by rw [HL3.znr];exact hc)))
 go_wp2_with fail
 refine zn [0,1,2,3,4,5,6,7,8,9,10,11,12,13,14,16,15,17,18] (by kernel_rfl) (by kernel_rfl) ?_
 rintro w7 rfl
 refine mqR ?_
 clear hc1 hc2
 refine zi rfl rfl (by rfl) (fun K hK=>?_)
 go_simp
 refine (zjt _ m _ HM.znr).mono ?_
 rintro e w7 ⟨rfl,rfl⟩
 go_simp
 refine hK _ _ (Below.refl _ _) ?_
 clear hK K
 refine mqR ?_
 refine zp rfl rfl (by rfl) (fun K hK=>?_)
 refine HB.znr.drew.nO (v:=L (Jf (qf (at64 v3 b) (at64 v3 c)) m)) rfl rfl rfl zR rfl rfl (by rw [yf,HL3.znr];exact hbl) (fun w8 hb8 ho8=>hK _ _ ?_)
 clear hK K
 rw [y7,← HE.znr] at hb8
 have HB:=znq hb8
 have HO:=znq ((Zm HO.znr).trans ho8)
 clear hb8 ho8
 go_simp
 refine zo ?_
 go_wp2
 go_end0
 exact ⟨⟨_,rfl⟩,HB.znr,HO.znr⟩
theorem zmb (pv i y':Nat) (x y:UInt64) (vs:List UInt64) (w:World) (hb:Blk w pv (vs.map L) 373) (hl:vs.length=16) (hi:i < 4) (hy:y' < 2) :
  Calls Tryz.prog 271 #[.pointer (some ⟨pv,0,none⟩),.int .i64 i,.int .i64 y',L x,L y] w fun e w'=>(∃ v,e=.returned v)∧Blk w' pv ((V9 vs i y' x y).map L) 373∧Only pv w w':=by
 obtain ⟨r1,hr1⟩:∃ r1,r1=(i+y') % 4:=⟨_,rfl⟩
 obtain ⟨r2,hr2⟩:∃ r1,r1=(i+2*y') % 4:=⟨_,rfl⟩
 obtain ⟨r3,hr3⟩:∃ r1,r1=(i+3*y') % 4:=⟨_,rfl⟩
 obtain ⟨q1,hq1⟩:∃ r,r=4+r1:=⟨_,rfl⟩
 obtain ⟨q2,hq2⟩:∃ r,r=8+r2:=⟨_,rfl⟩
 obtain ⟨q3,hq3⟩:∃ r,r=12+r3:=⟨_,rfl⟩
 have e1:((i:Int)+(y':Int)) % 4=(r1:Int):=by omega
 have e2:((i:Int)+2*(y':Int)) % 4=(r2:Int):=by omega
 have e3:((i:Int)+3*(y':Int)) % 4=(r3:Int):=by omega
 have f1:(4:Int)+(r1:Int)=(q1:Int):=by omega
 have f2:(8:Int)+(r2:Int)=(q2:Int):=by omega
 have f3:(12:Int)+(r3:Int)=(q3:Int):=by omega
 have HE:=znq (show V9 vs i y' x y=sM (sM vs i q1 q2 q3 x 32 24) i q1 q2 q3 y 16 63 by rw [hq1,hq2,hq3,hr1,hr2,hr3];rfl)
 have g1:q1 < 16:=by omega
 have g2:q2 < 16:=by omega
 have g3:q3 < 16:=by omega
 have HB:=znq hb
 have HL:=znq hl
 clear hb hl hq1 hq2 hq3 hr1 hr2 hr3
 go_enter Tryz.func271,Tryz.ntmps271
 go_wp2_with fail
 refine (zfu pv i q1 q2 q3 32 24 x vs _ HB.znr HL.znr (by omega) g1 g2 g3 (.inl rfl) (.inr (.inl rfl))).mono ?_
 rintro e w1 ⟨⟨v1,rfl⟩,hb1,ho1⟩
 have HB:=znq hb1
 have HO:=znq ho1
 have HL:=znq (show (sM vs i q1 q2 q3 x 32 24).length=16 by rw [X3];exact HL.znr)
 generalize sM vs i q1 q2 q3 x 32 24=us at *
 clear hb1 ho1
 go_wp2_with fail
 refine (zfu pv i q1 q2 q3 16 63 y us _ HB.znr HL.znr (by omega) g1 g2 g3 (.inr (.inr (.inl rfl))) (.inr (.inr (.inr rfl)))).mono ?_
 rintro e w2 ⟨⟨v2,rfl⟩,hb2,ho2⟩
 rw [← HE.znr] at hb2
 have HB:=znq hb2
 have HO:=znq (HO.znr.trans ho2)
 clear hb2 ho2
 go_wp2
 go_end0
 exact ⟨⟨_,rfl⟩,HB.znr,HO.znr⟩
end Go.Proofs.YtamdifhibogdiaaGreatDoor
