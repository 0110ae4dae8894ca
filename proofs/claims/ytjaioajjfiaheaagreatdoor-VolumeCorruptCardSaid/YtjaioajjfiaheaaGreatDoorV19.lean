/-
  Texts of this claim, one behind the other.
-/
import Derived.Test.YtjaioajjfiaheaaGreatDoorV1
import Derived.Test.YtjaioajjfiaheaaGreatDoorV18
import Derived.Test.YtjaioajjfiaheaaGreatDoorV16
import Derived.Test.YtjaioajjfiaheaaGreatDoorV8
import Derived.Test.YtjaioajjfiaheaaGreatDoorV12
import Derived.Test.YtjaioajjfiaheaaGreatDoorV17
import Derived.Lib.SmallJoins
import Derived.Lib.Hide
set_option linter.unusedVariables false
set_option linter.unusedSimpArgs false
set_option maxHeartbeats 16000000
set_option maxRecDepth 100000
open List renaming append_assoc→QA,flatMap_cons→lQ,length_append→q8,length_map→yf,length_set→Vo,length_take→Ku,mem_map→ug,mem_of_getElem?→xU,nil_append→uo,replicate→wh,take_of_length_le→Y2
open Nat renaming le_refl→xc,mod_lt→ma
namespace Go.Proofs.YtjaioajjfiaheaaGreatDoor
open RowKit Mem Ops Cells Oct Trn Blake pI
attribute [local irreducible] zE zN zO zM yJ
theorem zht (n m:Nat) (w:World) (hn:n < PP) (hm:m < PP):Calls Tryz.prog 236 #[.agg ((numOf n).map W).toArray,.agg ((numOf m).map W).toArray] w fun e w'=>e=.returned (.agg ((numOf ((n*m) % PP)).map W).toArray)∧Below w.heap.size w w':=by
 obtain ⟨h1,h2⟩:=zcn (qI n) (qI m)
 rw [kS (WD hn),kS (WD hm)] at h2
 obtain ⟨za,hza⟩:∃ z,z=xq (numOf n):=⟨_,rfl⟩
 obtain ⟨zb,hzb⟩:∃ z,z=xq (numOf m):=⟨_,rfl⟩
 rw [← hza,← hzb] at h1 h2
 have HN:=znq hn
 have HM:=znq hm
 have HZA:=znq (show xq (numOf n)=za∧za.length=5 from ⟨hza.symm,by rw [hza];rfl⟩)
 have HZB:=znq (show xq (numOf m)=zb∧zb.length=5 from ⟨hzb.symm,by rw [hzb];rfl⟩)
 have HLO:=znq h1
 have HVA:=znq (show xA (pz za zb [0,0,0,0,0] 5) % PP=n*m % PP∧True from ⟨h2,trivial⟩)
 have HNV:=znq (xG n)
 have HMV:=znq (xG m)
 have HAV:=znq (show (za.map L).length=5 by rw [yf];exact HZA.znr.2)
 have HBV:=znq (show (zb.map L).length=5 by rw [yf];exact HZB.znr.2)
 have HS:=znq (St.start w)
 clear hn hm h1 h2 hza hzb
 go_enter Tryz.func236,Tryz.ntmps236
 go_wp2_with (refine zh 301 _ ((numOf n).map W) _ rfl rfl rfl rfl ?_)
 intro w1 hb hbel;have HS:=znq (HS.znr.push hb hbel);have hlt1:=hb.lt;clear hb hbel
 go_wp2_with (refine zh 301 _ ((numOf m).map W) _ rfl rfl rfl rfl ?_)
 intro w2 hb hbel;have HS:=znq (HS.znr.push hb hbel);have hlt2:=hb.lt;clear hb hbel
 go_wp2_with (refine ze 301 ((wh 5 (0:UInt32)).map W) _ rfl rfl xr rfl ?_)
 intro w3 hb hbel;have HS:=znq (HS.znr.push hb hbel);have hlt3:=hb.lt;clear hb hbel
 have g0:w.heap.size < w3.heap.size:=HS.znr.ne _ (xU (i:=2) rfl)
 have g1:w1.heap.size < w3.heap.size:=HS.znr.ne _ (xU (i:=1) rfl)
 have g2:w2.heap.size < w3.heap.size:=HS.znr.ne _ (xU (i:=0) rfl)
 generalize hbb:w.heap.size=bb at *
 generalize w1.heap.size=b1 at *
 generalize w2.heap.size=b2 at *
 have HBB:=znq hbb
 clear hbb
 go_wp2_with fail
 refine yn [0,3] [1,2,4,5] [8,9] [zH.var 6 5 310 ((wh 5 (0:UInt64)).map L),zH.var 7 6 310 ((wh 5 (0:UInt64)).map L)] (by kernel_rfl) (by kernel_rfl) ?_
 rintro w4 rfl
 have HS:=znq HS.znr.drew
 refine zL (HS.znr.get 2 rfl).range (HS.znr.get 2 rfl).lt zP HNV.znr rfl rfl rfl (fun K hK=>?_)
 go_simp;refine hK _ ?_;clear hK K
 refine zL (HS.znr.get 1 rfl).range (HS.znr.get 1 rfl).lt zP HMV.znr rfl rfl rfl (fun K hK=>?_)
 go_simp;refine hK _ ?_;clear hK K
 refine yK ⟨?_,?_,xc _⟩
 ·intro f hf
  simp only [List.mem_cons,List.not_mem_nil,or_false] at hf
  rcases hf with rfl | rfl
  ·exact zhq _ _ _ _ _ _ rfl rfl rfl rfl (by simp) xe rfl
  ·exact zhq _ _ _ _ _ _ rfl rfl rfl rfl (by simp) xe rfl
 refine xD rfl rfl (fun uz vz wa hla K hK=>?_)
 go_simp
 have HS:=znq (HS.znr.later hla)
 refine (zap n _ HN.znr).mono ?_
 rintro e w5 ⟨rfl,hbel⟩
 have HS:=znq (HS.znr.later hbel)
 go_simp
 refine hK _ _ hbel ?_
 clear hK K hbel hla
 refine xD rfl rfl (fun uz vz wa hla K hK=>?_)
 go_simp
 have HS:=znq (HS.znr.later hla)
 refine (YF n _).mono ?_
 rintro e w6 ⟨rfl,hbel⟩
 rw [HZA.znr.1]
 have HS:=znq (HS.znr.later hbel)
 go_simp
 refine hK _ _ hbel ?_
 clear hK K hbel hla
 refine xD rfl rfl (fun uz vz wa hla K hK=>?_)
 go_simp
 have HS:=znq (HS.znr.later hla)
 refine (zap m _ HM.znr).mono ?_
 rintro e w7 ⟨rfl,hbel⟩
 have HS:=znq (HS.znr.later hbel)
 go_simp
 refine hK _ _ hbel ?_
 clear hK K hbel hla
 refine xD rfl rfl (fun uz vz wa hla K hK=>?_)
 go_simp
 have HS:=znq (HS.znr.later hla)
 refine (YF m _).mono ?_
 rintro e w8 ⟨rfl,hbel⟩
 rw [HZB.znr.1]
 have HS:=znq (HS.znr.later hbel)
 go_simp
 refine hK _ _ hbel ?_
 clear hK K hbel hla
 refine ZB (fun bx bY wb hlb hbx hby hxy hbn hbm=>?_)
 go_simp
 have HS:=znq (((HS.znr.later hlb).add (show Blk wb bx ((wh 5 (0:UInt64)).map L) 310 from hbn)).add (show Blk wb bY ((wh 5 (0:UInt64)).map L) 310 from hbm))
 clear hlb hbn hbm
 generalize w3.heap.size=b3 at *
 refine zp rfl rfl (by rfl) (fun K hK=>?_)
 refine (HS.znr.get 1 rfl).mZ rfl rfl rfl zJ rfl HAV.znr (qd _) (fun w9 hb ho=>hK _ _ ?_)
 clear hK K
 have HS:=znq (HS.znr.change 1 hb ho (by omega) (by simp;omega))
 clear hb ho
 go_simp
 refine zp rfl rfl (by rfl) (fun K hK=>?_)
 refine (HS.znr.get 0 rfl).mZ rfl rfl rfl zJ rfl HBV.znr (qd _) (fun w10 hb ho=>hK _ _ ?_)
 clear hK K
 have HS:=znq (HS.znr.change 0 hb ho (by omega) (by simp;omega))
 clear hb ho
 go_simp
 refine zo ?_
 have h1:bx < w10.heap.size:=HS.znr.ne _ (xU (i:=1) rfl)
 have h2:bY < w10.heap.size:=HS.znr.ne _ (xU (i:=0) rfl)
 have h3:b2 < w10.heap.size:=HS.znr.ne _ (xU (i:=2) rfl)
 go_wp2_with (refine ze 310 ((wh 5 (0:UInt64)).map L) _ rfl rfl xe rfl ?_)
 intro w11 hb hbel;have HS:=znq (HS.znr.push hb hbel);have zjU:=hb.lt;clear hb hbel
 generalize w10.heap.size=b4 at *
 go_wp2
 go_loopw [17] (fun c wr=>∃ (i:Nat),i≤5∧c=.int .i64 i∧Hid (St w bb wr [(b4,(pz za zb [0,0,0,0,0] i).map L,310),(bY,zb.map L,310),(bx,za.map L,310),(b2,(wh 5 (0:UInt32)).map W,301),(b1,(numOf m).map W,301),(bb,(numOf n).map W,301)])) (fun c _=>5 - (intOf c).toNat)
 case atStart=>exact ⟨0,by omega,rfl,HS⟩
 case round =>
  clear HS
  obtain ⟨i,hi,rfl,HS⟩:=hrel
  by_cases hlt:i < 5
  ·have HTL:=znq (show (pz za zb [0,0,0,0,0] i).length=5 from by rw [wZ];rfl)
   have HTN:=znq (show pz za zb [0,0,0,0,0] (i+1)=sZ za zb (pz za zb [0,0,0,0,0] i) i 5∧True from ⟨rfl,trivial⟩)
   obtain ⟨tn,htn⟩:∃ t,t=pz za zb [0,0,0,0,0] (i+1):=⟨_,rfl⟩
   rw [← htn] at HTN
   have HT:=znq (show pz za zb [0,0,0,0,0] (i+1)=tn∧True from ⟨htn.symm,trivial⟩)
   clear htn
   generalize pz za zb [0,0,0,0,0] i=v at *
   have di:decide ((i:Int) < 5)=true:=by simp;omega
   go_wp2
   go_loopw [20] (fun c wr=>∃ (j:Nat),j≤5∧c=.int .i64 j∧Hid (St w bb wr [(b4,(sZ za zb v i j).map L,310),(bY,zb.map L,310),(bx,za.map L,310),(b2,(wh 5 (0:UInt32)).map W,301),(b1,(numOf m).map W,301),(bb,(numOf n).map W,301)])) (fun c _=>5 - (intOf c).toNat)
   case atStart=>exact ⟨0,by omega,rfl,HS⟩
   case round =>
    clear HS
    obtain ⟨j,hj,rfl,HS⟩:=hrel
    by_cases hlj:j < 5
    ·have HRL:=znq (show (sZ za zb v i j).length=5 from by rw [Yz];exact HTL.znr)
     obtain ⟨s,hs⟩:∃ s,s=i+j:=⟨_,rfl⟩
     obtain ⟨r,hr⟩:∃ r,r=s % 5:=⟨_,rfl⟩
     have e1:(i:Int)+(j:Int)=(s:Int):=by omega
     have e2:(s:Int).tmod 5=(r:Int):=by rw [Int.tmod_eq_emod_of_nonneg (by omega),hr];simp
     have hr5:r < 5:=by omega
     have hs9:s≤9:=by omega
     have HST:=znq (show (sZ za zb v i j).set r (zy (at64 (sZ za zb v i j) r) (zS za zb i j))=sZ za zb v i (j+1)∧True from ⟨by rw [sZ,zf3,hr,hs],trivial⟩)
     obtain ⟨un,hun⟩:∃ t,t=sZ za zb v i (j+1):=⟨_,rfl⟩
     rw [← hun] at HST
     have HU:=znq (show sZ za zb v i (j+1)=un∧True from ⟨hun.symm,trivial⟩)
     clear hun
     generalize sZ za zb v i j=u at *
     have hc0:=fun (x:zG wr.drew)=>((HS.znr.get 2 rfl).drew.below x.later (HS.znr.get 2 rfl).drew.lt).cell i _ (yz (z9 (l:=za) (i:=i) (by rw [HZA.znr.2];exact hlt)))
     have hc1:=fun (x:zG wr.drew)=>((HS.znr.get 1 rfl).drew.below x.later (HS.znr.get 1 rfl).drew.lt).cell j _ (yz (z9 (l:=zb) (i:=j) (by rw [HZB.znr.2];exact hlj)))
     have HSR:=znq (show s=i+j∧True from ⟨hs,trivial⟩)
     clear hr hs
     go_wp2_with fail
     refine zn [0,1,2,3,4,5,6,7] (by kernel_rfl) (by kernel_rfl) ?_
     rintro w12 rfl
     refine mqR ?_
     refine zo ?_
     clear hc0 hc1
     have HS:=znq HS.znr.drew
     generalize wr.drew=wd at *
     have hc:=(HS.znr.get 0 rfl).cell r _ (yz (z9 (l:=u) (i:=r) (by rw [HRL.znr];exact hr5)))
     by_cases h5:5≤s
     ·have d5:decide ((s:Int)≥5)=true:=by simp;omega
      have d6:decide (5≤(s:Int))=true:=by simp;omega
      have HTE:=znq (show zS za zb i j=xP (xP (at64 za i) (at64 zb j)) 5∧True from ⟨by unfold zS;rw [if_pos (by have:=HSR.znr.1;omega)],trivial⟩)
      rw [HTE.znr.1] at HST
      go_wp2_with (refine (HS.znr.get 0 rfl).ry (i:=r) (v:=L (zy (at64 u r) (xP (xP (at64 za i) (at64 zb j)) 5))) rfl rfl rfl rfl zR rfl rfl (by rw [yf,HRL.znr];exact hr5) ?_)
      intro w13 hb ho
      rw [y7,HST.znr.1,← HU.znr.1] at hb
      have HS:=znq (HS.znr.change 0 hb ho (by omega) (by simp;omega))
      clear hb ho hc
      go_wp2
      go_roundw
      case rel=>exact ⟨j+1,by omega,by go_num,HS⟩
      case measure=>simp [intOf];omega
     ·have d5:decide ((s:Int)≥5)=false:=by simp;omega
      have d6:decide (5≤(s:Int))=false:=by simp;omega
      have HTE:=znq (show zS za zb i j=xP (at64 za i) (at64 zb j)∧True from ⟨by unfold zS;rw [if_neg (by have:=HSR.znr.1;omega)],trivial⟩)
      rw [HTE.znr.1] at HST
      go_wp2_with (refine (HS.znr.get 0 rfl).ry (i:=r) (v:=L (zy (at64 u r) (xP (at64 za i) (at64 zb j)))) rfl rfl rfl rfl zR rfl rfl (by rw [yf,HRL.znr];exact hr5) ?_)
      intro w13 hb ho
      rw [y7,HST.znr.1,← HU.znr.1] at hb
      have HS:=znq (HS.znr.change 0 hb ho (by omega) (by simp;omega))
      clear hb ho hc
      go_wp2
      go_roundw
      case rel=>exact ⟨j+1,by omega,by go_num,HS⟩
      case measure=>simp [intOf];omega
    ·obtain rfl:j=5:=by omega
     rw [← HTN.znr.1,← HT.znr.1] at HS
     go_wp2
     go_roundw
     case rel=>exact ⟨i+1,by omega,by go_num,HS⟩
     case measure=>simp [intOf];omega
  ·obtain rfl:i=5:=by omega
   have HTL:=znq (show ((pz za zb [0,0,0,0,0] 5).map L).length=5 from by rw [yf,wZ];rfl)
   generalize pz za zb [0,0,0,0,0] 5=v at *
   go_wp2_with (refine (HS.znr.get 0 rfl).mP rfl rfl rfl zJ HTL.znr ?_)
   refine (KQ v _ HLO.znr).mono ?_
   rintro e w14 ⟨rfl,hbel⟩
   rw [HVA.znr.1]
   have HS:=znq (HS.znr.later hbel)
   clear hbel
   go_wp2_with (refine (HS.znr.get 3 rfl).mM rfl rfl rfl (cs:=(numOf (n*m % PP)).map W) rfl zP rfl rfl (yT _) ?_)
   intro w15 zbK zbL
   have HE:=znq (zk HS.znr.bel zbL (by omega))
   clear zbL
   go_wp2
   refine zbK.result rfl rfl rfl zP rfl ⟨rfl,?_⟩
   rw [HBB.znr]
   exact HE.znr
end Go.Proofs.YtjaioajjfiaheaaGreatDoor
namespace Go.Adi
open Ops Oct pI
def pE (b:List UInt8):Nat→List UInt8
 | 0=>b
 | k+1=>(pE b k).set (3+4*k) (rE (at8 (pE b k) (3+4*k)) 15)
def nP (b:List UInt8):Nat→List UInt8
 | 0=>b
 | k+1=>(nP b k).set (4+4*k) (rE (at8 (nP b k) (4+4*k)) 252)
theorem YG (b:List UInt8):∀ k,(pE b k).length=b.length
 | 0=>rfl
 | k+1=>by rw [pE,Vo,YG b k]
theorem Z4 (b:List UInt8):∀ k,(nP b k).length=b.length
 | 0=>rfl
 | k+1=>by rw [nP,Vo,Z4 b k]
theorem zc8 {b:List UInt8} (h:b.length=16):nP (pE b 4) 3=j6 b:=by
 match b,h with
 | [b0,b1,b2,b3,b4,b5,b6,b7,b8,b9,b10,b11,b12,b13,b14,b15],_=>rfl
theorem zhu (b:List UInt8):(leN b+340282366920938463463374607431768211456*(1:UInt32).toNat) % PP=ZR b:=rfl
theorem zkp (b:List UInt8):(leN b+340282366920938463463374607431768211456*(0:UInt32).toNat) % PP=leN b % PP:=by
 show (leN b+340282366920938463463374607431768211456*0) % PP=_
 rw [Nat.mul_zero,Nat.add_zero]
end Go.Adi
namespace Go.Cells
open RowKit
theorem Blk.rZ {P:Program} {w:World} {b off n:Nat} {vs us:List Value} {ty':TypeId} (h:Blk w b vs ty') {ops:Array Oper} {rest:List Oper} {op:Oper} {a:Act} {Q:Exit→Act→World→Prop} {ty:TypeId} {x:Operand}
  (hgd:op.guard=none) (ho:op.op=.load ty x) (hx:a.eval x=.pointer (some ⟨b,off,none⟩)) (hr:Row P ty n) (hu:(vs.drop off).take n=us) (hn:us.length=n)
  (k:wpList P ops Q rest (a.put op.dst (.agg us.toArray)) w):wpList P ops Q (op::rest) a w:=by
 obtain ⟨d,hu',hd,hi⟩:=hr.open
 exact wpList_load_mid hgd ty x ho b off hx us d (Blk.nA h off n us hu) hu' hd (by rw [hi,hn]) k
end Go.Cells
namespace Go.Proofs.YtjaioajjfiaheaaGreatDoor
open RowKit Mem Ops Cells Oct Trn Blake pI Adi
attribute [local irreducible] zE zN zO zM yJ
theorem zc9 (b:List UInt8) (w:World) (hb:b.length=16):Calls Tryz.prog 229 #[.agg (b.map B).toArray,.int .u32 0] w fun e w'=>e=.returned (.agg ((numOf (leN b % PP)).map W).toArray)∧Below w.heap.size w w':=by
 have h:=zgd b 0 w hb (by decide)
 rw [zkp] at h
 exact h
theorem zkq (b:List UInt8) (w:World) (hb:b.length=16):Calls Tryz.prog 229 #[.agg (b.map B).toArray,.int .u32 1] w fun e w'=>e=.returned (.agg ((numOf (ZR b)).map W).toArray)∧Below w.heap.size w w':=by
 have h:=zgd b 1 w hb (by decide)
 rw [zhu] at h
 exact h
theorem zkr (b:List UInt8) (w:World) (hb:b.length=16):Calls Tryz.prog 230 #[.agg (b.map B).toArray] w fun e w'=>e=.returned (.agg ((j6 b).map B).toArray)∧Below w.heap.size w w':=by
 have HB:=znq (show b.length=16∧nP (pE b 4) 3=j6 b from ⟨hb,zc8 hb⟩)
 have HS:=znq (St.start w)
 clear hb
 go_enter Tryz.func230,Tryz.ntmps230
 go_wp2_with (refine zh 117 _ (b.map B) _ rfl rfl rfl rfl ?_)
 intro w1 hb hbel;have HS:=znq (HS.znr.push hb hbel);have hlt1:=hb.lt;clear hb hbel
 go_wp2_with (refine ze 117 ((zf 16).map B) _ rfl rfl zj rfl ?_)
 intro w2 hb hbel;have HS:=znq (HS.znr.push hb hbel);have hlt2:=hb.lt;clear hb hbel
 generalize hbb:w.heap.size=bb at *
 generalize w1.heap.size=b1 at *
 have HBB:=znq hbb
 clear hbb
 go_wp2
 go_loopw [3] (fun c wr=>∃ (k i:Nat),k≤4∧Hid (i=3+4*k)∧c=.int .i64 i∧Hid (St w bb wr [(b1,(zf 16).map B,117),(bb,(pE b k).map B,117)])) (fun c _=>19 - (intOf c).toNat)
 case atStart=>exact ⟨0,3,by omega,znq rfl,rfl,HS⟩
 case round =>
  clear HS
  obtain ⟨k,i,hk,HI,rfl,HS⟩:=hrel
  have HCL:=znq (show (pE b k).length=16 from by rw [YG];exact HB.znr.1)
  by_cases hlt:k < 4
  ·have zgS:i < 16:=by have:=HI.znr;omega
   have d0:decide ((i:Int) < 16)=true:=by simp;omega
   have HN:=znq (show (pE b k).set i (rE (at8 (pE b k) i) 15)=pE b (k+1)∧True from ⟨by rw [pE,HI.znr],trivial⟩)
   obtain ⟨nx,hnx⟩:∃ x,x=pE b (k+1):=⟨_,rfl⟩
   have HX:=znq (show pE b (k+1)=nx∧True from ⟨hnx.symm,trivial⟩)
   rw [← hnx] at HN
   clear hnx
   generalize pE b k=u at *
   have hc:=(HS.znr.get 1 rfl).cell i _ (zU (mR (b:=u) (i:=i) (by rw [HCL.znr];exact zgS)))
   go_wp2_with (refine (HS.znr.get 1 rfl).ry (i:=i) (v:=B (rE (at8 u i) 15)) rfl rfl rfl rfl zl rfl rfl (by rw [yf,HCL.znr];exact zgS) ?_)
   intro w3 hb ho
   rw [ym,HN.znr.1,← HX.znr.1] at hb
   have HS:=znq (HS.znr.change 1 hb ho (by omega) (by simp;omega))
   clear hb ho hc
   go_wp2
   go_roundw
   case rel=>exact ⟨k+1,i+4,by omega,by have:=HI.znr;exact znq (by omega),by go_num,HS⟩
   case measure=>simp [intOf];omega
  ·obtain rfl:k=4:=by omega
   have d19:decide ((i:Int) < 16)=false:=by have:=HI.znr;simp;omega
   clear hlt HI hk
   obtain ⟨c1,hc1⟩:∃ x,x=pE b 4:=⟨_,rfl⟩
   have HC1:=znq (show nP c1 3=j6 b∧True from ⟨by rw [hc1];exact HB.znr.2,trivial⟩)
   rw [← hc1] at HS HCL
   clear hc1
   go_wp2
   go_loopw [4] (fun c wr=>∃ (k i:Nat),k≤3∧Hid (i=4+4*k)∧c=.int .i64 i∧Hid (St w bb wr [(b1,(zf 16).map B,117),(bb,(nP c1 k).map B,117)])) (fun c _=>19 - (intOf c).toNat)
   case atStart=>exact ⟨0,4,by omega,znq rfl,rfl,HS⟩
   case round =>
    clear HS
    obtain ⟨k,j,hk,HI,rfl,HS⟩:=hrel
    have HCM:=znq (show (nP c1 k).length=16 from by rw [Z4];exact HCL.znr)
    by_cases hlt:k < 3
    ·have zgS:j < 16:=by have:=HI.znr;omega
     have d0:decide ((j:Int) < 16)=true:=by simp;omega
     have HN:=znq (show (nP c1 k).set j (rE (at8 (nP c1 k) j) 252)=nP c1 (k+1)∧True from ⟨by rw [nP,HI.znr],trivial⟩)
     obtain ⟨nx,hnx⟩:∃ x,x=nP c1 (k+1):=⟨_,rfl⟩
     have HX:=znq (show nP c1 (k+1)=nx∧True from ⟨hnx.symm,trivial⟩)
     rw [← hnx] at HN
     clear hnx
     generalize nP c1 k=u at *
     have hc:=(HS.znr.get 1 rfl).cell j _ (zU (mR (b:=u) (i:=j) (by rw [HCM.znr];exact zgS)))
     go_wp2_with (refine (HS.znr.get 1 rfl).ry (i:=j) (v:=B (rE (at8 u j) 252)) rfl rfl rfl rfl zl rfl rfl (by rw [yf,HCM.znr];exact zgS) ?_)
     intro w3 hb ho
     rw [ym,HN.znr.1,← HX.znr.1] at hb
     have HS:=znq (HS.znr.change 1 hb ho (by omega) (by simp;omega))
     clear hb ho hc
     go_wp2
     go_roundw
     case rel=>exact ⟨k+1,j+4,by omega,by have:=HI.znr;exact znq (by omega),by go_num,HS⟩
     case measure=>simp [intOf];omega
    ·obtain rfl:k=3:=by omega
     obtain rfl:j=16:=by have:=HI.znr;omega
     rw [HC1.znr.1] at HS HCM
     have HCV:=znq (show ((j6 b).map B).length=16 by rw [yf];exact HCM.znr)
     go_wp2_with (first | (refine (HS.znr.get 1 rfl).mP rfl rfl rfl zc HCV.znr ?_) | (refine (HS.znr.get 0 rfl).mM rfl rfl rfl (cs:=(j6 b).map B) rfl zc (by rw [yf,zd]) HCV.znr (zg _) ?_))
     intro w5 hb5 ho5
     have HE:=znq (zk HS.znr.bel ho5 (by omega))
     clear ho5
     go_wp2
     refine hb5.result rfl rfl rfl zc HCV.znr ⟨rfl,?_⟩
     rw [HBB.znr]
     exact HE.znr
def qe (r v:Nat) (rest:List UInt8) (k:Nat):List Value:=(numOf r).map W++(numOf v).map W++rest.map B++[.int .i64 k]
theorem jY {r v:Nat} {rest:List UInt8} {k:Nat} (h:rest.length=16):(qe r v rest k).length=27:=by simp [qe,numOf,h]
theorem Kv:Row Tryz.prog 304 27:=⟨by kernel_rfl,by kernel_rfl⟩
theorem zks (n:Nat):Tryz.prog.built 304 [(0,.agg ((numOf n).map W).toArray)]=some (qe n 0 (zf 16) 0).toArray:=by kernel_rfl
theorem zmv (r v:Nat) (rest:List UInt8) (k:Nat):((qe r v rest k).drop 0).take 5=(numOf r).map W:=rfl
theorem Ve (r v:Nat) (rest:List UInt8) (k:Nat):((qe r v rest k).drop 5).take 5=(numOf v).map W:=rfl
theorem zkt (r v n:Nat) (rest:List UInt8) (k:Nat):(qe r v rest k).take 5++(numOf n).map W++(qe r v rest k).drop (5+((numOf n).map W).length)=qe r n rest k:=rfl
theorem zge (key:List UInt8) (w:World) (hk:key.length=16):Calls Tryz.prog 222 #[.agg (key.map B).toArray] w fun e w'=>∃ sb,e=.returned (.pointer (some ⟨sb,0,none⟩))∧w.heap.size≤sb∧Blk w' sb (qe (rOf key) 0 (zf 16) 0) 304∧Below w.heap.size w w':=by
 have HKL:=znq (show key.length=16∧True from ⟨hk,trivial⟩)
 have HKV:=znq (show (key.map B).length=16 by rw [yf];exact hk)
 have HS:=znq (St.start w)
 clear hk
 go_enter Tryz.func222,Tryz.ntmps222
 go_wp2_with (refine zh 117 _ (key.map B) _ rfl rfl rfl rfl ?_)
 intro w1 hb hbel;have HS:=znq (HS.znr.push hb hbel);have hlt1:=hb.lt;clear hb hbel
 go_wp2_with (refine (HS.znr.get 0 rfl).mP rfl rfl rfl zc HKV.znr ?_)
 refine (zkr key _ HKL.znr.1).mono ?_
 rintro e w2 ⟨rfl,hbel⟩
 have HS:=znq (HS.znr.later hbel)
 clear hbel
 go_wp2_with fail
 refine (zc9 (j6 key) _ (VK _)).mono ?_
 rintro e w3 ⟨rfl,hbel⟩
 have HS:=znq (HS.znr.later hbel)
 have hz:=HS.znr.size
 clear hbel
 go_wp2_with (first | (refine xZ 304 _ _ _ rfl rfl rfl (zks (leN (j6 key) % PP)) ?_) | refine zh 304 _ (qe (leN (j6 key) % PP) 0 (zf 16) 0) _ rfl rfl rfl rfl ?_)
 intro w4 hb hbel
 have HB:=znq hb
 have HE:=znq (HS.znr.bel.trans (hbel.mono hz))
 clear hb hbel
 go_wp2
 go_ret
 exact ⟨_,rfl,hz,HB.znr,HE.znr⟩
theorem zda (sb r v n:Nat) (rest:List UInt8) (k:Nat) (w:World) (hb:Blk w sb (qe r v rest k) 304) (hr:r < PP) (hv:v < PP) (hn:n < PP) :
  Calls Tryz.prog 231 #[.pointer (some ⟨sb,0,none⟩),.agg ((numOf n).map W).toArray] w fun e w'=>(∃ x,e=.returned x)∧Blk w' sb (qe r (vX r v n) rest k) 304∧zI sb w w':=by
 have HSB:=znq hb
 have HO:=znq (zI.refl sb w)
 have HR:=znq hr
 have HV:=znq hv
 have HN:=znq hn
 have HNV:=znq (xG n)
 have HRV:=znq (xG r)
 have HVV:=znq (xG v)
 have hsb:=hb.lt
 clear hb hr hv hn
 go_enter Tryz.func231,Tryz.ntmps231
 go_wp2_with (refine zh 301 _ ((numOf n).map W) _ rfl rfl rfl rfl ?_)
 intro w1 hb hbel
 have HX:=znq hb
 have HSB:=znq (HSB.znr.below hbel hsb)
 have HO:=znq (HO.znr.trans (zI.of_below hbel))
 clear hb hbel
 generalize w.heap.size=bb at *
 go_wp2_with fail
 refine zn [0,1,2,3,4,5,7,8,9,10,6,11,12,13,14] (by kernel_rfl) (by kernel_rfl) ?_
 rintro w2 rfl
 have HX:=znq HX.znr.drew
 have HSB:=znq HSB.znr.drew
 have HO:=znq HO.znr.drew
 refine mqR ?_
 refine zt (Blk.nA HSB.znr 5 5 _ (Ve r v rest k)) HSB.znr.lt zP HVV.znr rfl rfl rfl rfl (fun K hK=>?_)
 go_simp;refine hK _ ?_;clear hK K
 refine zt HX.znr.range HX.znr.lt zP HNV.znr rfl rfl rfl rfl (fun K hK=>?_)
 go_simp;refine hK _ ?_;clear hK K
 refine mqR ?_
 refine zt (Blk.nA HSB.znr 0 5 _ (zmv r v rest k)) HSB.znr.lt zP HRV.znr rfl rfl rfl rfl (fun K hK=>?_)
 go_simp;refine hK _ ?_;clear hK K
 refine zi rfl rfl (by rfl) (fun K hK=>?_)
 go_simp
 refine (zko v n _ HV.znr HN.znr).mono ?_
 rintro e w3 ⟨rfl,hbel⟩
 have HSB:=znq (HSB.znr.below hbel HSB.znr.lt)
 have HO:=znq (HO.znr.trans (zI.of_below hbel))
 go_simp
 refine hK _ _ hbel ?_
 clear hK K hbel
 refine zi rfl rfl (by rfl) (fun K hK=>?_)
 go_simp
 refine (zht ((v+n) % PP) r _ (ma _ ze6) HR.znr).mono ?_
 rintro e w4 ⟨rfl,hbel⟩
 have HSB:=znq (HSB.znr.below hbel HSB.znr.lt)
 have HO:=znq (HO.znr.trans (zI.of_below hbel))
 go_simp
 refine hK _ _ hbel ?_
 clear hK K hbel
 refine mqR ?_
 refine zp rfl rfl (by rfl) (fun K hK=>?_)
 refine HSB.znr.pG rfl rfl rfl zP rfl (by show 5+5≤_;simp [qe,numOf]) (yT _) (fun w5 hb ho=>hK _ _ ?_)
 clear hK K
 rw [zkt] at hb
 have HSB:=znq (show Blk w5 sb (qe r (vX r v n) rest k) 304 from by unfold vX;rw [Nat.mod_mul_mod];exact hb)
 have HO:=znq (HO.znr.trans (zI.nH ho))
 clear hb ho
 go_simp
 refine zo ?_
 go_wp2
 go_end0
 exact ⟨⟨_,rfl⟩,HSB.znr,HO.znr⟩
end Go.Proofs.YtjaioajjfiaheaaGreatDoor
namespace Go.Hct
open Ops
theorem zgT:∀ k:Fin 4,∀ i:Fin 8,i.val < 2 ^ k.val→bits .or .i64 ((2 ^ k.val:Nat):Int) (i.val:Int)=((2 ^ k.val+i.val:Nat):Int):=by decide +kernel
theorem zmw:∀ k:Fin 4,∀ i:Fin 8,i.val < 2 ^ k.val→(2 ^ k.val+i.val).log2=k.val:=by decide +kernel
theorem zaq:∀ k:Fin 4,1≤2 ^ k.val∧2 ^ k.val≤8:=by decide +kernel
theorem zmx:∀ k:Fin 4,RowKit.wrap64 (2 ^ k.val)=((2 ^ k.val:Nat):Int):=by decide +kernel
theorem zku (h:List UInt8) {k i:Nat} (hk:k < 4) (hi:i < 2 ^ k) :
  jX h (2 ^ k+i)=(jX h (2 ^ k - 1+i)).set (2 ^ k+i) (rY (atP (jX h (2 ^ k - 1+i)) i) (Qt h k) 1):=by
 obtain ⟨h1,h8⟩:=zaq ⟨k,hk⟩
 have hl:=zmw ⟨k,hk⟩ ⟨i,by have:=h8;simp at this;omega⟩ hi
 simp only at hl h1 h8
 have e:2 ^ k+i=(2 ^ k - 1+i)+1:=by omega
 rw [e,jX,← e,hl,show 2 ^ k+i - 2 ^ k=i by omega]
end Go.Hct
namespace Go.Proofs.YtjaioajjfiaheaaGreatDoor
open RowKit Mem Ops Cells Oct Trn Adi Hct
attribute [local irreducible] zE zN zO zM yJ
def Z8 (t:List (UInt64×UInt64)):List Value:=t.flatMap zQ
theorem zdb (t:List (UInt64×UInt64)):(Z8 t).length=2*t.length:=by
 induction t with
 | nil=>rfl
 | cons p t ih=>simp only [Z8,lQ,q8,List.length_cons] at *;rw [ih];simp [zQ];omega
theorem zar:∀ (t:List (UInt64×UInt64)) (i:Nat),i < t.length→((Z8 t).drop (i*2)).take 2=zQ (atP t i)
 | p::t,0,_=>rfl
 | p::t,i+1,h=>by
  have:=zar t i (by simpa using h)
  rw [show (i+1)*2=i*2+2 by omega]
  simpa [Z8,zQ,atP] using this
theorem zdc:∀ (t:List (UInt64×UInt64)) (i:Nat) (x:UInt64×UInt64),i < t.length→(Z8 t).take (i*2)++zQ x++(Z8 t).drop (i*2+2)=Z8 (t.set i x)
 | p::t,0,x,_=>by simp [Z8,zQ]
 | p::t,i+1,x,h=>by
  have:=zdc t i x (by simpa using h)
  rw [show (i+1)*2=i*2+2 by omega]
  simp only [Z8,zQ,lQ,List.set_cons_succ] at *
  simp only [List.cons_append,uo,List.take_succ_cons,List.drop_succ_cons] at *
  rw [this]
theorem zkv:Tryz.prog.built 329 []=some (Z8 (wh 16 (0,0))).toArray:=by kernel_rfl
theorem zkw (h:List UInt8) (w:World) (hh:h.length=16):Calls Tryz.prog 258 #[.agg (h.map B).toArray] w fun e w'=>∃ tb,e=.returned (.pointer (some ⟨tb,0,none⟩))∧w.heap.size≤tb∧Blk w' tb (Z8 (zcy h)) 329∧Below w.heap.size w w':=by
 have HH:=znq (show h.length=16∧True from ⟨hh,trivial⟩)
 have HHV:=znq (show (h.map B).length=16 by rw [yf];exact hh)
 have HS:=znq (St.start w)
 clear hh
 obtain ⟨t0,ht0⟩:∃ t0,t0=jX h 0:=⟨_,rfl⟩
 have hbt:Tryz.prog.built 329 []=some (Z8 t0).toArray:=by rw [ht0];exact zkv
 have HT0:=znq (show t0=jX h 0∧True from ⟨ht0,trivial⟩)
 clear ht0
 go_enter Tryz.func258,Tryz.ntmps258
 go_wp2_with (refine zh 117 _ (h.map B) _ rfl rfl rfl rfl ?_)
 intro w1 hb hbel;have HS:=znq (HS.znr.push hb hbel);have hlt1:=hb.lt;clear hb hbel
 go_wp2_with (first | (refine xZ 329 _ _ _ rfl rfl rfl hbt ?_) | refine zh 329 _ (Z8 t0) _ rfl rfl rfl rfl ?_)
 intro w2 hb hbel;have HS:=znq (HS.znr.push hb hbel);have hlt2:=hb.lt;clear hb hbel hbt
 generalize hbb:w.heap.size=bb at *
 generalize w1.heap.size=b1 at *
 have HBB:=znq hbb
 clear hbb
 go_wp2_with fail
 refine (YL (some ⟨bb,0,none⟩) 16 16 h _ HH.znr.1 (by omega) (HS.znr.get 1 rfl).lies).mono ?_
 rintro e w3 ⟨rfl,hbel⟩
 have HS:=znq (HS.znr.later hbel)
 clear hbel
 go_wp2_with fail
 refine (zgP (xo h) (1,0) _).mono ?_
 rintro e w4 ⟨rfl,hbel⟩
 have HS:=znq (HS.znr.later hbel)
 have HLT:=znq (show b1 < w4.heap.size from (HS.znr.get 0 rfl).lt)
 clear hbel hlt2
 have zbM:=znq (show zgM (xo h) (1,0)=Qt h 0∧True from ⟨rfl,trivial⟩)
 generalize zgM (xo h) (1,0)=one0 at *
 go_wp2_with (refine ze 119 (zQ (0,0)) _ rfl rfl zT rfl ?_)
 intro w5 hb hbel;have HS:=znq (HS.znr.push hb hbel);have zcO:=hb.lt;clear hb hbel
 generalize w4.heap.size=b4 at *
 go_wp2_with (refine (HS.znr.get 0 rfl).mM rfl rfl rfl (cs:=zQ one0) rfl zq rfl rfl (zX _) ?_)
 intro w6 hb ho
 have HS:=znq (HS.znr.change 0 hb ho (by have:=HLT.znr;omega) (by have:=HLT.znr;simp;omega))
 have hbb1:bb≤b1:=by omega
 have zbP:=HLT.znr
 clear hb ho zcO
 go_wp2
 go_loopw [13] (fun c wr=>∃ (k:Nat) (t:List (UInt64×UInt64)) (one:UInt64×UInt64),k≤4∧c=.int .i64 k∧Hid (t=jX h (2 ^ k - 1)∧one=Qt h k)∧Hid (St w bb wr [(b4,zQ one,119),(b1,Z8 t,329),(bb,h.map B,117)])) (fun c _=>4 - (intOf c).toNat)
 case atStart=>exact ⟨0,t0,one0,by omega,rfl,znq ⟨HT0.znr.1,zbM.znr.1⟩,HS⟩
 case round =>
  clear HS HT0 zbM
  obtain ⟨k,t,one,hk,rfl,HE,HS⟩:=hrel
  by_cases hlt:k < 4
  ·have hd:decide ((k:Int) < 4)=true:=by simp;omega
   obtain ⟨q,hq⟩:∃ q,q=2 ^ k:=⟨_,rfl⟩
   have HQ:=znq (show q=2 ^ k∧True from ⟨hq,trivial⟩)
   have hq8:q≤8:=by rw [hq];exact (zaq ⟨k,hlt⟩).2
   have hsh:RowKit.wrap64 (2 ^ k)=(q:Int):=by rw [hq];exact zmx ⟨k,hlt⟩
   clear hq
   go_wp2
   rw [hsh]
   go_loopw [18] (fun c wr=>∃ (i:Nat) (t:List (UInt64×UInt64)),i≤q∧c=.int .i64 i∧Hid (t=jX h (2 ^ k - 1+i)∧one=Qt h k)∧Hid (St w bb wr [(b4,zQ one,119),(b1,Z8 t,329),(bb,h.map B,117)])) (fun c _=>q - (intOf c).toNat)
   case atStart=>exact ⟨0,t,by omega,rfl,znq HE.znr,HS⟩
   case round =>
    clear HS HE
    obtain ⟨i,t,hi,rfl,HE,HS⟩:=hrel
    by_cases hiq:i < q
    ·have di:decide ((i:Int) < (q:Int))=true:=by simp;omega
     obtain ⟨m,hm⟩:∃ m,m=q+i:=⟨_,rfl⟩
     have hm16:m < 16:=by omega
     have hor:bits .or .i64 (q:Int) (i:Int)=(m:Int):=by
      have:=HQ.znr.1
      rw [hm,this]
      exact zgT ⟨k,hlt⟩ ⟨i,by omega⟩ (by rw [← this];exact hiq)
     have HM:=znq (show m=q+i∧True from ⟨hm,trivial⟩)
     have HTL:=znq (show t.length=16∧True from ⟨by rw [HE.znr.1];exact ZS _ _,trivial⟩)
     clear hm
     go_wp2_with fail
     refine zn [0,1,2,3,4,5,6,7,8,9,10,11,13,14,12,15,16] (by kernel_rfl) (by kernel_rfl) ?_
     rintro w7 rfl
     have HS:=znq HS.znr.drew
     refine mqR ?_
     refine zt (Blk.nA (HS.znr.get 1 rfl) (i*2) 2 _ (zar t i (by rw [HTL.znr.1];omega))) (HS.znr.get 1 rfl).lt zq rfl rfl rfl rfl rfl (fun K hK=>?_)
     go_simp;refine hK _ ?_;clear hK K
     refine zt (HS.znr.get 0 rfl).range (HS.znr.get 0 rfl).lt zq rfl rfl rfl rfl rfl (fun K hK=>?_)
     go_simp;refine hK _ ?_;clear hK K
     refine mqR ?_
     refine zi rfl rfl (by rfl) (fun K hK=>?_)
     go_simp
     refine (J8 (atP t i) one 1 _).mono ?_
     rintro e w8 ⟨rfl,hbel⟩
     have HS:=znq (HS.znr.later hbel)
     go_simp
     refine hK _ _ hbel ?_
     clear hK K hbel
     refine mqR ?_
     have HN:=znq (show t.set m (rY (atP t i) one 1)=jX h (2 ^ k - 1+(i+1))∧one=Qt h k from ⟨by
      have h2:=HQ.znr.1
      have h1:=(zaq ⟨k,hlt⟩).1
      simp only at h1
      rw [show 2 ^ k - 1+(i+1)=2 ^ k+i by omega,zku h hlt (by rw [← h2];exact hiq),← HE.znr.1,← HE.znr.2,HM.znr.1,h2],HE.znr.2⟩)
     generalize rY (atP t i) one 1=x at *
     refine zp rfl rfl (by rfl) (fun K hK=>?_)
     refine (HS.znr.get 1 rfl).pG (o:=m*2) (cs:=zQ x) rfl rfl rfl zq rfl (by rw [zdb,HTL.znr.1];omega) (zX _) (fun w9 hb ho=>hK _ _ ?_)
     clear hK K
     rw [show (zQ x).length=2 from rfl,zdc t m x (by rw [HTL.znr.1];exact hm16)] at hb
     have HS:=znq (HS.znr.change 1 hb ho (by omega) (by simp;omega))
     clear hb ho
     go_simp
     refine zo ?_
     go_wp2
     go_roundw
     case rel=>exact ⟨i+1,t.set m x,by omega,by go_num,HN,HS⟩
     case measure=>simp [intOf];omega
    ·obtain rfl:i=q:=by omega
     have di:decide ((i:Int) < (i:Int))=false:=by simp
     have HE:=znq (show t=jX h (2 ^ (k+1) - 1)∧one=Qt h k from ⟨by
      have h2:=HQ.znr.1
      have h1:=(zaq ⟨k,hlt⟩).1
      simp only at h1
      rw [HE.znr.1,h2]
      congr 1
      rw [Nat.pow_succ]
      omega,HE.znr.2⟩)
     have HWV:=znq (show (zQ one).length=2 from rfl)
     go_wp2_with (refine (HS.znr.get 0 rfl).mP rfl rfl rfl zq rfl ?_)
     refine (zgN one _).mono ?_
     rintro e w7 ⟨rfl,hbel⟩
     have HS:=znq (HS.znr.later hbel)
     have HE:=znq (show t=jX h (2 ^ (k+1) - 1)∧upR one=Qt h (k+1) from ⟨HE.znr.1,by rw [HE.znr.2];rfl⟩)
     generalize upR one=one' at *
     clear hbel
     go_wp2_with (refine (HS.znr.get 0 rfl).mM rfl rfl rfl (cs:=zQ one') rfl zq rfl rfl (zX _) ?_)
     intro w8 hb ho
     have HS:=znq (HS.znr.change 0 hb ho (by omega) (by simp;omega))
     clear hb ho
     go_wp2
     go_roundw
     case rel=>exact ⟨k+1,t,one',by omega,by go_num,HE,HS⟩
     case measure=>simp [intOf];omega
  ·obtain rfl:k=4:=by omega
   go_wp2
   go_ret
   rw [HBB.znr]
   refine ⟨_,rfl,hbb1,?_,HS.znr.bel⟩
   have:=HS.znr.get 1 rfl
   rw [HE.znr.1] at this
   exact this
end Go.Proofs.YtjaioajjfiaheaaGreatDoor
namespace Go.Hct
open Ops Trn
def upN (s:UInt64×UInt64):Nat→UInt64×UInt64
 | 0=>s
 | m+1=>upR (upN s m)
def zkX (t:List (UInt64×UInt64)) (s:UInt64×UInt64) (x y:UInt8):Nat→UInt64×UInt64
 | 0=>s
 | 1=>zcz t s x
 | _=>zcz t (zcz t s x) y
def pick (x y:UInt8):Nat→UInt8
 | 0=>x
 | _=>y
end Go.Hct
namespace Go.Proofs.YtjaioajjfiaheaaGreatDoor
open RowKit Mem Ops Cells Oct Trn Adi Hct
attribute [local irreducible] zE zN zO zM yJ
theorem zmy (b:UInt8) (j:Nat):(pick (rF b 4) (rE b 15) j).toNat < 16:=by
 have h:=lt8 b
 match j with
 | 0 =>
  have:=zfp b 4
  show (rF b 4).toNat < 16
  omega
 | j+1 =>
  show (rE b 15).toNat < 16
  unfold rE
  rw [UInt8.toNat_and]
  exact Nat.lt_of_le_of_lt Nat.and_le_right (by decide)
theorem ze7 (x y:UInt8) {j:Nat} (h:j < 2):(#[B x,B y]:Array Value)[j]? = some (B (pick x y j)):=by
 match j,h with
 | 0,_=>rfl
 | 1,_=>rfl
theorem zmz (tb:Nat) (t:List (UInt64×UInt64)) (a:List UInt8) (w:World) (ht:t.length=16) (ha:a.length=16) (hb:Blk w tb (Z8 t) 329) :
  Calls Tryz.prog 259 #[.pointer (some ⟨tb,0,none⟩),.agg (a.map B).toArray] w fun e w'=>e=.returned (.agg ((zcK t a).map B).toArray)∧Below w.heap.size w w':=by
 have HT:=znq (show t.length=16∧True from ⟨ht,trivial⟩)
 have HA:=znq (show a.length=16∧True from ⟨ha,trivial⟩)
 have HTB:=znq hb
 have HTL:=znq hb.lt
 have HS:=znq (St.start w)
 clear ht ha hb
 go_enter Tryz.func259,Tryz.ntmps259
 go_wp2_with (refine zh 117 _ (a.map B) _ rfl rfl rfl rfl ?_)
 intro w1 hb hbel;have HS:=znq (HS.znr.push hb hbel);have hlt1:=hb.lt;clear hb hbel
 go_wp2_with (refine ze 117 ((zf 16).map B) _ rfl rfl zj rfl ?_)
 intro w2 hb hbel;have HS:=znq (HS.znr.push hb hbel);have hlt2:=hb.lt;clear hb hbel
 go_wp2_with (refine ze 119 (zQ (0,0)) _ rfl rfl zT rfl ?_)
 intro w3 hb hbel;have HS:=znq (HS.znr.push hb hbel);have hlt3:=hb.lt;clear hb hbel
 generalize hbb:w.heap.size=bb at *
 generalize w1.heap.size=b1 at *
 generalize w2.heap.size=b2 at *
 have HBB:=znq hbb
 clear hbb
 go_wp2
 go_loopw [13] (fun c wr=>∃ (i:Nat) (s:UInt64×UInt64),i≤16∧c=.int .i64 i∧Hid (s=JY t a i∧True)∧Hid (St w bb wr [(b2,zQ s,119),(b1,(zf 16).map B,117),(bb,a.map B,117)])) (fun c _=>16 - (intOf c).toNat)
 case atStart=>exact ⟨0,(0,0),by omega,rfl,znq ⟨rfl,trivial⟩,HS⟩
 case round =>
  clear HS
  obtain ⟨i,s,hi,rfl,HE,HS⟩:=hrel
  by_cases hlt:i < 16
  ·have hd:decide ((i:Int) < 16)=true:=by simp;omega
   obtain ⟨r,hr⟩:∃ r,r=15 - i:=⟨_,rfl⟩
   have hri:(15:Int) - (i:Int)=(r:Int):=by omega
   have hr16:r < 16:=by omega
   have hw:IntKind.i64.wrap ((15:Int) - (i:Int))=(r:Int):=by rw [IntWalk.i64_in _ (by omega)];exact hri
   have HR:=znq (show r=15 - i∧True from ⟨hr,trivial⟩)
   have hc:=(HS.znr.get 2 rfl).cell r _ (zU (mR (b:=a) (i:=r) (by rw [HA.znr.1];exact hr16)))
   clear hr
   obtain ⟨v,hv⟩:∃ v,v=at8 a r:=⟨_,rfl⟩
   have HV:=znq (show v=at8 a r∧True from ⟨hv,trivial⟩)
   rw [← hv] at hc
   clear hv
   go_wp2
   have HP:=znq (zmy v)
   have HNB:=znq (show zcz t (zcz t s (rF v 4)) (rE v 15)=JY t a (i+1)∧True from ⟨by rw [HE.znr.1,HV.znr.1,HR.znr.1];rfl,trivial⟩)
   clear HE HV hc
   generalize rF v 4=x at *
   generalize rE v 15=y at *
   go_loopw [25] (fun c wr=>∃ (j:Nat) (s':UInt64×UInt64),j≤2∧c=.int .i64 j∧Hid (s'=zkX t s x y j∧True)∧Hid (St w bb wr [(b2,zQ s',119),(b1,(zf 16).map B,117),(bb,a.map B,117)])) (fun c _=>2 - (intOf c).toNat)
   case atStart=>exact ⟨0,s,by omega,rfl,znq ⟨rfl,trivial⟩,HS⟩
   case round =>
    clear HS
    obtain ⟨j,s',hj,rfl,HE,HS⟩:=hrel
    by_cases hlj:j < 2
    ·have dj:decide ((j:Int) < 2)=true:=by simp;omega
     have hix:=fun w':World=>qF (P:=Tryz.prog) w' 332 5 2 #[B x,B y] .i64 j (B (pick x y j)) Tryz.underlying332 (by kernel_rfl) zl (ze7 x y hlj) hlj
     have hp16:=HP.znr j
     have HMI:=znq (show zkX t s x y (j+1)=zcz t s' (pick x y j)∧True from ⟨by
      rw [HE.znr.1]
      match j,hlj with
      | 0,_=>rfl
      | 1,_=>rfl,trivial⟩)
     generalize pick x y j=z at *
     go_wp2
     go_loopw [28] (fun c wr=>∃ (k:Nat) (s'':UInt64×UInt64),k≤4∧c=.int .i64 k∧Hid (s''=upN s' k∧True)∧Hid (St w bb wr [(b2,zQ s'',119),(b1,(zf 16).map B,117),(bb,a.map B,117)])) (fun c _=>4 - (intOf c).toNat)
     case atStart=>exact ⟨0,s',by omega,rfl,znq ⟨rfl,trivial⟩,HS⟩
     case round =>
      clear HS
      obtain ⟨k,s'',hk,rfl,HK,HS⟩:=hrel
      by_cases hlk:k < 4
      ·have dk:decide ((k:Int) < 4)=true:=by simp;omega
       go_wp2_with (refine (HS.znr.get 0 rfl).mP rfl rfl rfl zq rfl ?_)
       refine (zgN s'' _).mono ?_
       rintro e w7 ⟨rfl,hbel⟩
       have HS:=znq (HS.znr.later hbel)
       have HK:=znq (show upR s''=upN s' (k+1)∧True from ⟨by rw [HK.znr.1];rfl,trivial⟩)
       generalize upR s''=q at *
       clear hbel
       go_wp2_with (refine (HS.znr.get 0 rfl).mM rfl rfl rfl (cs:=zQ q) rfl zq rfl rfl (zX _) ?_)
       intro w8 hb ho
       have HS:=znq (HS.znr.change 0 hb ho (by omega) (by simp;omega))
       clear hb ho
       go_wp2
       go_roundw
       case rel=>exact ⟨k+1,q,by omega,by go_num,HK,HS⟩
       case measure=>simp [intOf];omega
      ·obtain rfl:k=4:=by omega
       have HN:=znq (show rY s'' (atP t z.toNat) 1=zkX t s x y (j+1)∧True from ⟨by rw [HMI.znr.1,HK.znr.1];rfl,trivial⟩)
       have zaW:=znq (HTB.znr.below HS.znr.bel HTL.znr)
       go_wp2_with fail
       refine zn [0,1,2,3,4,5,6,7,8] (by kernel_rfl) (by kernel_rfl) ?_
       rintro w7 rfl
       have HS:=znq HS.znr.drew
       have zaW:=znq zaW.znr.drew
       refine zt (HS.znr.get 0 rfl).range (HS.znr.get 0 rfl).lt zq rfl rfl rfl rfl rfl (fun K hK=>?_)
       go_simp;refine hK _ ?_;clear hK K
       refine mqR ?_
       refine zt (Blk.nA zaW.znr (z.toNat*2) 2 _ (zar t z.toNat (by rw [HT.znr.1];exact hp16))) zaW.znr.lt zq rfl rfl rfl rfl rfl (fun K hK=>?_)
       go_simp;refine hK _ ?_;clear hK K
       refine zi rfl rfl (by rfl) (fun K hK=>?_)
       go_simp
       refine (J8 s'' (atP t z.toNat) 1 _).mono ?_
       rintro e w8 ⟨rfl,hbel⟩
       have HS:=znq (HS.znr.later hbel)
       go_simp
       refine hK _ _ hbel ?_
       clear hK K hbel
       generalize rY s'' (atP t z.toNat) 1=q at *
       refine zp rfl rfl (by rfl) (fun K hK=>?_)
       refine (HS.znr.get 0 rfl).mZ rfl rfl rfl zq rfl rfl (zX _) (fun w9 hb ho=>hK _ _ ?_)
       clear hK K
       have HS:=znq (HS.znr.change 0 hb ho (by omega) (by simp;omega))
       clear hb ho
       go_simp
       refine zo ?_
       go_wp2
       go_roundw
       case rel=>exact ⟨j+1,q,by omega,by go_num,HN,HS⟩
       case measure=>simp [intOf];omega
    ·obtain rfl:j=2:=by omega
     have HE:=znq (show s'=JY t a (i+1)∧True from ⟨by rw [HE.znr.1,← HNB.znr.1];rfl,trivial⟩)
     go_wp2
     go_roundw
     case rel=>exact ⟨i+1,s',by omega,by go_num,HE,HS⟩
     case measure=>simp [intOf];omega
  ·obtain rfl:i=16:=by omega
   have HE:=znq (show z7 s=zcK t a∧True from ⟨by rw [HE.znr.1];rfl,trivial⟩)
   have HWL:=znq (zZ s)
   go_wp2_with (refine (HS.znr.get 0 rfl).mP rfl rfl rfl zq rfl ?_)
   refine (k5 s.1 s.2 _).mono ?_
   rintro e w7 ⟨rfl,hbel⟩
   have HS:=znq (HS.znr.later hbel)
   clear hbel
   obtain ⟨q,hq⟩:∃ q,q=zcK t a:=⟨_,rfl⟩
   have HBV:=znq (show q.length=16 by rw [hq];exact YD _ _)
   rw [show zz s.1++zz s.2=q by rw [hq];exact HE.znr.1]
   have HQ:=znq (show q=zcK t a∧True from ⟨hq,trivial⟩)
   clear hq
   go_wp2_with (refine (HS.znr.get 1 rfl).mM rfl rfl rfl (cs:=q.map B) rfl zc (by simp [zd]) (by rw [yf];exact HBV.znr) (zg _) ?_)
   intro w8 hb ho
   go_wp2
   refine hb.result rfl rfl rfl zc (by rw [yf];exact HBV.znr) ⟨by rw [HQ.znr.1],?_⟩
   rw [HBB.znr]
   exact zk HS.znr.bel ho (by omega)
end Go.Proofs.YtjaioajjfiaheaaGreatDoor
namespace Go.Mem
open RowKit Cells Ops
theorem _root_.Go.Cells.Blk.zcS {w:World} {b:Nat} {vs:List Value} {ty:TypeId} (h:Blk w b vs ty) (i:Nat):w.cell? ⟨b,i,none⟩=vs[i]?:=by
 unfold Blk at h
 simp [World.cell?,h]
theorem _root_.Go.Cells.Only.zbF {b:Nat} {w w':World} (h:Only b w w') {c:Nat} (i:Nat) (hne:c≠b):w'.cell? ⟨c,i,none⟩=w.cell? ⟨c,i,none⟩:=by
 simp [World.cell?,h.block c hne]
theorem zr.zaX {w w':World} {ao:Option Addr} {ls:List UInt32} {bs:List UInt8} {b:Nat} {ty:TypeId} (h:zr w ao (ls.map W)) (hb:Blk w b (bs.map B) ty) (ho:Only b w w'):zr w' ao (ls.map W):=by
 intro j u hu
 obtain ⟨c,off,e,hc⟩:=h j u hu
 refine ⟨c,off,e,?_⟩
 by_cases he:c=b
 ·subst he
  exfalso
  have h1:w.cell? ⟨c,off+j,none⟩=(bs.map B)[off+j]?:=hb.zcS _
  rw [hc] at h1
  have h2:=xU h1.symm
  obtain ⟨x,_,hx⟩:=ug.1 h2
  obtain ⟨y,_,hy⟩:=ug.1 (xU hu)
  rw [← hy] at hx
  simp at hx
 ·exact (ho.zbF (off+j) he).trans hc
end Go.Mem
namespace Go.Cha
open Ops Oct Trn
theorem wH (x:UInt32):(nz x).length=4:=by simp [nz]
theorem zdd (l:List UInt32) (x:UInt32):xi (l++[x])=xi l++nz x:=by simp [xi]
theorem ze8 (bs:List UInt8) (off:Nat) (l:List UInt32) (i:Nat) (x:UInt32) (hx:l[i]? = some x) (hf:off+4*l.length≤bs.length) :
  splice (splice bs off (xi (l.take i))) (off+4*i) (nz x)=splice bs off (xi (l.take (i+1))):=by
 have hi:i < l.length:=(List.getElem?_eq_some_iff.1 hx).1
 have hl:(xi (l.take i)).length=4*i:=by rw [k4,Ku];omega
 have ht:l.take (i+1)=l.take i++[x]:=by rw [List.take_add_one,hx];rfl
 have htl:(bs.take off).length=off:=by rw [Ku];omega
 rw [ht,zdd]
 unfold splice
 rw [q8,hl,wH]
 have e1:(bs.take off++(xi (l.take i)++bs.drop (off+4*i))).take (off+4*i)=bs.take off++xi (l.take i):=by
  rw [← QA,List.take_append_of_le_length (by rw [q8,htl,hl];omega),Y2 (by rw [q8,htl,hl];omega)]
 have e2:(bs.take off++(xi (l.take i)++bs.drop (off+4*i))).drop (off+4*i+4)=bs.drop (off+(4*i+4)):=by
  rw [← QA,List.drop_append,List.drop_eq_nil_of_le (by rw [q8,htl,hl];omega),uo,q8,htl,hl,List.drop_drop]
  congr 1
  omega
 rw [e1,e2]
 simp [QA]
end Go.Cha
namespace Go.Proofs.YtjaioajjfiaheaaGreatDoor
open RowKit Mem Ops Cells Oct Trn Cha
attribute [local irreducible] zE zN zO zM yJ
theorem zas (po off n cap:Nat) (ns:Option Addr) (m mc:Nat) (bs:List UInt8) (ls:List UInt32) (ty:TypeId) (w:World) (hb:Blk w po (bs.map B) ty) (hl:zr w ns (ls.map W)) (hm:ls.length=m) (hm1:m≤16) (hf:off+4*m≤bs.length) (hn:4*m≤n) (hc:n≤cap) :
  Calls Tryz.prog 169 #[.slice (some ⟨po,off,none⟩) n cap,.slice ns m mc] w fun e w'=>(∃ v,e=.returned v)∧Blk w' po ((splice bs off (xi ls)).map B) ty∧zI po w w':=by
 have HB:=znq hb
 have HL:=znq hl
 have HM:=znq (show ls.length=m∧True from ⟨hm,trivial⟩)
 have HO:=znq (zI.refl po w)
 have HE0:=znq (show bs=splice bs off (xi (ls.take 0))∧True from ⟨by simp [splice,xi],trivial⟩)
 have HF:=znq (show off+4*ls.length≤bs.length from by rw [hm];exact hf)
 have hsl:∀ (i:Nat) (w':World),i < m→(Instr.slice 22 (.slice (some ⟨po,off,none⟩) n cap) (some (.int .i64 (4*(i:Int)))) none none).run Tryz.prog w'=.ok (.slice (some ⟨po,off+4*i,none⟩) (n - 4*i) (cap - 4*i)) w':=by
  intro i w' hi
  have:=yv (P:=Tryz.prog) w' 22 5 1 Tryz.underlying22 zl (some ⟨po,off,none⟩) n cap (4*i) (4*(i:Int)) (by omega) (by omega)
  rw [this]
  unfold yy
  rw [if_neg (by omega)]
  simp [Addr.add]
 have HSL:=znq hsl
 clear hb hl hm hf hsl
 go_enter Tryz.func169,Tryz.ntmps169
 go_wp2
 go_loopw [9] (fun c wr=>∃ (i:Nat),i≤m∧c=.int .i64 i∧Hid (Blk wr po ((splice bs off (xi (ls.take i))).map B) ty)∧Hid (zr wr ns (ls.map W))∧Hid (zI po w wr)) (fun c _=>m - (intOf c).toNat)
 case atStart=>exact ⟨0,by omega,rfl,znq (by rw [← HE0.znr.1];exact HB.znr),HL,HO⟩
 case round =>
  clear HB HL HO
  obtain ⟨i,hi,rfl,HB,HL,HO⟩:=hrel
  by_cases hlt:i < m
  ·obtain ⟨x,hx⟩:∃ x,ls[i]? = some x:=⟨ls[i]'(by rw [HM.znr.1];exact hlt),by simp⟩
   obtain ⟨nb,noff,rfl,hcn⟩:=HL.znr i (W x) (kz hx)
   have HSP:=znq (show splice (splice bs off (xi (ls.take i))) (off+4*i) (nz x)=splice bs off (xi (ls.take (i+1)))∧True from ⟨ze8 bs off ls i x hx HF.znr,trivial⟩)
   have HLE:=znq (show (splice bs off (xi (ls.take i))).length=bs.length∧True from ⟨length_splice _ _ _ (by rw [k4,Ku];have:=HF.znr;omega),trivial⟩)
   clear hx
   go_wp2_with fail
   refine (Zy x _).mono ?_
   rintro e w2 ⟨rfl,hbel⟩
   have hpo:=HB.znr.lt
   have HL:=znq (HL.znr.below hbel)
   have HO:=znq (HO.znr.trans (zI.of_below hbel))
   have HB:=znq (HB.znr.below hbel hpo)
   clear hbel hcn hpo
   have hz2:=HO.znr.size
   go_wp2_with (refine ze 155 ((zf 4).map B) _ rfl rfl Xq rfl ?_)
   intro w3 hb3 mY
   have hpo:=HB.znr.lt
   have HL:=znq (HL.znr.below mY)
   have HO:=znq (HO.znr.trans (zI.of_below mY))
   have HB:=znq (HB.znr.below mY hpo)
   clear mY
   generalize hw2:w2.heap.size=b2 at *
   have HW2:=znq hw2
   clear hw2
   go_wp2_with (refine hb3.mM rfl rfl rfl (cs:=(nz x).map B) rfl kL rfl (by rw [yf,wH]) (zg _) ?_)
   intro w4 hb4 ho4
   have HV:=znq hb4
   have HL4:=znq (HL.znr.zaX hb3 ho4)
   have HO:=znq (HO.znr.other ho4 hz2)
   have hpb:po < b2:=hpo
   have HB:=znq (HB.znr.only ho4 (by omega))
   have HL:=HL4
   clear hb3 hb4 ho4 HL4
   have hs:=fun w'=>HSL.znr i w' hlt
   go_wp2_with fail
   refine zn [0,1,2,3,4,5] (by kernel_rfl) (by kernel_rfl) ?_
   rintro w5 rfl
   refine mqR ?_
   clear hs
   refine zp rfl rfl (by rfl) (fun K hK=>?_)
   refine HB.znr.drew.rC (off+4*i) ((nz x).map B) rfl rfl rfl Tryz.underlying22 zl (fun _=>rfl) HV.znr.drew.lies (by rw [yf,wH];exact (Nat.min_eq_left (by omega)).symm) (by rw [yf,yf,wH,HLE.znr.1];have:=HF.znr;have:=HM.znr.1;omega) (zg _) (fun w6 hb6 ho6=>hK _ _ ?_)
   clear hK K
   rw [xV,HSP.znr.1] at hb6
   have HL:=znq ((HL.znr.below (Below.refl _ w4).drew).zaX HB.znr.drew ho6)
   have HO:=znq (HO.znr.drew.trans (zI.nH ho6))
   have HB:=znq hb6
   clear hb6 ho6
   go_simp
   refine zo ?_
   go_wp2
   go_roundw
   case rel=>exact ⟨i+1,by omega,by go_num,HB,HL,HO⟩
   case measure=>simp [intOf];omega
  ·obtain rfl:i=m:=by omega
   have HEND:=znq (show splice bs off (xi (ls.take i))=splice bs off (xi ls)∧True from ⟨by rw [Y2 (by rw [HM.znr.1];exact xc _)],trivial⟩)
   rw [HEND.znr.1] at HB
   go_wp2
   go_end0
   exact ⟨⟨_,rfl⟩,HB.znr,HO.znr⟩
end Go.Proofs.YtjaioajjfiaheaaGreatDoor
namespace Go.Cha
open Ops Oct Trn
def rT (key inn:List UInt8) (i:Nat):List UInt32:=(List.range 16).map fun r=>if r % 4 < i then wu key inn r else 0
theorem zm0 (key inn:List UInt8):rT key inn 0=wh 16 0:=rfl
theorem zm1 (key inn:List UInt8):rT key inn 4=je key inn:=by
 unfold rT je
 apply List.map_congr_left
 intro r _
 rw [if_pos (ma _ (by omega))]
theorem zat (key inn:List UInt8) (i:Nat):(rT key inn i).length=16:=by simp [rT]
theorem ze9 (key inn:List UInt8) {i:Nat} (hi:i < 4) :
  ((((rT key inn i).set i (yU j5 (4*i))).set (4+i) (yU key (4*i))).set (8+i) (yU key (4*i+16))).set (12+i) (yU inn (4*i))=rT key inn (i+1):=by
 match i,hi with
 | 0,_=>rfl
 | 1,_=>rfl
 | 2,_=>rfl
 | 3,_=>rfl
end Go.Cha
namespace Go.Proofs.YtjaioajjfiaheaaGreatDoor
open RowKit Mem Ops Cells Oct Trn Cha
attribute [local irreducible] zE zN zO zM yJ
theorem zfa (w:World) (xs:List Value) (ty:TypeId) (fr:Nat×Nat):zr (w.alloc (.cells xs.toArray ty fr)) (some ⟨w.heap.size,0,none⟩) xs:=by
 intro j u hu
 refine ⟨w.heap.size,0,rfl,?_⟩
 rw [World.cell?_alloc_mark,Nat.zero_add]
 simpa using hu
theorem zhv (w:World):(convert 22 22 (.slice (some ⟨w.heap.size,0,none⟩) 16 16)).run Tryz.prog (w.alloc (.cells (j5.map B).toArray 5))=.ok (.slice (some ⟨w.heap.size,0,none⟩) 16 16) (w.alloc (.cells (j5.map B).toArray 5 (16,17))) :=
 Go.Joins.run_convert_bytes_const_at w 22 5 (j5.map B).toArray 16 16 w.heap.size rfl Tryz.underlying22 Tryz.underlying5
theorem zfb (w:World):(convert 22 22 (.slice (some ⟨w.heap.size,0,none⟩) 16 16)).run Tryz.prog (w.alloc (.cells #[.int .u8 101,.int .u8 120,.int .u8 112,.int .u8 97,.int .u8 110,.int .u8 100,.int .u8 32,.int .u8 51,.int .u8 50,.int .u8 45,.int .u8 98,.int .u8 121,.int .u8 116,.int .u8 101,.int .u8 32,.int .u8 107] 5))=.ok (.slice (some ⟨w.heap.size,0,none⟩) 16 16) (w.alloc (.cells (j5.map B).toArray 5 (16,17))):=zhv w
theorem zde (key inn:List UInt8) (w:World) (hk:key.length=32) (hi:inn.length=16) :
  Calls Tryz.prog 167 #[.agg (key.map B).toArray,.agg (inn.map B).toArray] w fun e w'=>e=.returned (.agg ((je key inn).map W).toArray)∧Below w.heap.size w w':=by
 have HK:=znq (show key.length=32∧True from ⟨hk,trivial⟩)
 have HI:=znq (show inn.length=16∧True from ⟨hi,trivial⟩)
 have HS:=znq (St.start w)
 clear hk hi
 go_enter Tryz.func167,Tryz.ntmps167
 go_wp2_with (refine zh 186 _ (key.map B) _ rfl rfl rfl rfl ?_)
 intro w1 hb hbel;have HS:=znq (HS.znr.push hb hbel);have hlt1:=hb.lt;clear hb hbel
 go_wp2_with (refine zh 117 _ (inn.map B) _ rfl rfl rfl rfl ?_)
 intro w2 hb hbel;have HS:=znq (HS.znr.push hb hbel);have hlt2:=hb.lt;clear hb hbel
 go_wp2_with (refine ze 242 ((wh 16 (0:UInt32)).map W) _ rfl rfl qt rfl ?_)
 intro w3 hb hbel;have HS:=znq (HS.znr.push hb hbel);have hlt3:=hb.lt;clear hb hbel
 go_wp2_with (refine ze 242 ((wh 16 (0:UInt32)).map W) _ rfl rfl qt rfl ?_)
 intro w4 hb hbel;have HS:=znq (HS.znr.push hb hbel);have zaE:=hb.lt;clear hb hbel
 generalize hbb:w.heap.size=bb at *
 generalize w1.heap.size=b1 at *
 generalize w2.heap.size=b2 at *
 generalize w3.heap.size=b3 at *
 have HBB:=znq hbb
 clear hbb
 go_wp2
 go_loopw [7] (fun c wr=>∃ (i:Nat),i≤4∧c=.int .i64 i∧Hid (St w bb wr [(b3,(rT key inn i).map W,242),(b2,(wh 16 (0:UInt32)).map W,242),(b1,inn.map B,117),(bb,key.map B,186)])) (fun c _=>4 - (intOf c).toNat)
 case atStart=>exact ⟨0,by omega,rfl,znq (by rw [zm0];exact HS.znr)⟩
 case round =>
  clear HS
  obtain ⟨i,hi,rfl,HS⟩:=hrel
  by_cases hlt:i < 4
  ·have HL0:=znq (show ((rT key inn i).map W).length=16 by rw [yf];exact zat key inn i)
   obtain ⟨a4,ha4⟩:∃ a,a=4*i:=⟨_,rfl⟩
   obtain ⟨a16,ha16⟩:∃ a,a=4*i+16:=⟨_,rfl⟩
   obtain ⟨r1,hr1⟩:∃ a,a=4+i:=⟨_,rfl⟩
   obtain ⟨r2,hr2⟩:∃ a,a=8+i:=⟨_,rfl⟩
   obtain ⟨r3,hr3⟩:∃ a,a=12+i:=⟨_,rfl⟩
   have e4:4*(i:Int)=(a4:Int):=by omega
   have e16:(a4:Int)+16=(a16:Int):=by omega
   have f1:(4:Int)+(i:Int)=(r1:Int):=by omega
   have f2:(8:Int)+(i:Int)=(r2:Int):=by omega
   have f3:(12:Int)+(i:Int)=(r3:Int):=by omega
   have HST:=znq (show ((((rT key inn i).set i (yU j5 a4)).set r1 (yU key a4)).set r2 (yU key a16)).set r3 (yU inn a4)=rT key inn (i+1)∧True from ⟨by rw [ha4,ha16,hr1,hr2,hr3];exact ze9 key inn hlt,trivial⟩)
   have g1:r1 < 16:=by omega
   have g2:r2 < 16:=by omega
   have g3:r3 < 16:=by omega
   have ga:a4≤100:=by omega
   have gb:a16≤100:=by omega
   clear ha4 ha16 hr1 hr2 hr3
   obtain ⟨fin,hfin⟩:∃ f,f=rT key inn (i+1):=⟨_,rfl⟩
   have zbN:=znq (show rT key inn (i+1)=fin∧True from ⟨hfin.symm,trivial⟩)
   rw [← hfin] at HST
   clear hfin
   generalize rT key inn i=us at *
   have hcv:=zfb wr
   go_wp2_with fail
   have HLW:=znq (zfa wr (j5.map B) 5 (16,17))
   have HS:=znq (HS.znr.later (zD wr (.cells (j5.map B).toArray 5 (16,17))))
   generalize wr.alloc (.cells (j5.map B).toArray 5 (16,17))=wm at *
   clear hcv
   refine (kZ _ 16 16 a4 j5 _ rfl (by omega) (by omega) HLW.znr).mono ?_
   rintro e w5 ⟨rfl,hbel⟩
   have HS:=znq (HS.znr.later hbel)
   clear hbel HLW
   go_wp2_with (refine (HS.znr.get 0 rfl).ry (i:=i) (v:=W (yU j5 a4)) rfl rfl rfl rfl yt rfl rfl (by rw [HL0.znr];omega) ?_)
   intro w6 hb6 ho6
   simp only [xI] at hb6
   have HS:=znq (HS.znr.change 0 hb6 ho6 (by omega) (by simp;omega))
   clear hb6 ho6
   go_wp2_with fail
   refine (kZ _ 32 32 a4 key _ HK.znr.1 (by omega) (by omega) (HS.znr.get 3 rfl).lies).mono ?_
   rintro e w7 ⟨rfl,hbel⟩
   have HS:=znq (HS.znr.later hbel)
   clear hbel
   go_wp2_with (refine (HS.znr.get 0 rfl).ry (i:=r1) (v:=W (yU key a4)) rfl rfl rfl rfl yt rfl rfl (by have:=HL0.znr;simp only [yf,Vo] at this ⊢;omega) ?_)
   intro w8 hb8 ho8
   simp only [xI] at hb8
   have HS:=znq (HS.znr.change 0 hb8 ho8 (by omega) (by simp;omega))
   clear hb8 ho8
   go_wp2_with fail
   refine (kZ _ 32 32 a16 key _ HK.znr.1 (by omega) (by omega) (HS.znr.get 3 rfl).lies).mono ?_
   rintro e w9 ⟨rfl,hbel⟩
   have HS:=znq (HS.znr.later hbel)
   clear hbel
   go_wp2_with (refine (HS.znr.get 0 rfl).ry (i:=r2) (v:=W (yU key a16)) rfl rfl rfl rfl yt rfl rfl (by have:=HL0.znr;simp only [yf,Vo] at this ⊢;omega) ?_)
   intro w10 sD rH
   simp only [xI] at sD
   have HS:=znq (HS.znr.change 0 sD rH (by omega) (by simp;omega))
   clear sD rH
   go_wp2_with fail
   refine (kZ _ 16 16 a4 inn _ HI.znr.1 (by omega) (by omega) (HS.znr.get 2 rfl).lies).mono ?_
   rintro e w11 ⟨rfl,hbel⟩
   have HS:=znq (HS.znr.later hbel)
   clear hbel
   go_wp2_with (refine (HS.znr.get 0 rfl).ry (i:=r3) (v:=W (yU inn a4)) rfl rfl rfl rfl yt rfl rfl (by have:=HL0.znr;simp only [yf,Vo] at this ⊢;omega) ?_)
   intro w12 pY sJ
   simp only [xI] at pY
   rw [HST.znr.1,← zbN.znr.1] at pY
   have HS:=znq (HS.znr.change 0 pY sJ (by omega) (by simp;omega))
   clear pY sJ
   go_wp2
   go_roundw
   case rel=>exact ⟨i+1,by omega,by go_num,HS⟩
   case measure=>simp [intOf];omega
  ·obtain rfl:i=4:=by omega
   have HFL:=znq (show ((je key inn).map W).length=16 by rw [yf];exact zjf key inn)
   rw [zm1] at HS
   go_wp2_with (first | (refine (HS.znr.get 0 rfl).mP rfl rfl rfl yW HFL.znr ?_) | (refine (HS.znr.get 1 rfl).mM rfl rfl rfl (cs:=(je key inn).map W) rfl yW rfl HFL.znr (yT _) ?_))
   intro w5 hb5 ho5
   have HE:=znq (zk HS.znr.bel ho5 (by omega))
   clear ho5
   go_wp2
   refine hb5.result rfl rfl rfl yW HFL.znr ⟨rfl,?_⟩
   rw [HBB.znr]
   exact HE.znr
end Go.Proofs.YtjaioajjfiaheaaGreatDoor
